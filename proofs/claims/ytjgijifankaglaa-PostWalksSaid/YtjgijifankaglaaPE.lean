/- The law's own helpers: same, short, lent, still, owned; and what the document shows. -/
import Derived.Test.YtjgijifankaglaaPC
import Derived.Test.YtjgijifankaglaaGPc
namespace Go.Proofs.Ytjgijifankaglaa
open Go Go.RowKit Go.Proofs.Ytjgijifankaglaa.SX
set_option linter.unusedVariables false

section
variable {w : World} {a b s : Sl} {xs ys : List Int} {n : Int}
theorem C23 (ha : Rd E4 w a xs) (hb : Rd E4 w b ys) : Calls Try.prog 23 #[.slice a.a a.n a.c, .slice b.a b.n b.c] w (fun e w1 => ∃ (r0 : Bool), e = .returned (.bool r0 : Value) ∧ (r0 = decide (xs = ys) ∧ Below w.heap.size w w1)) := by
  refine F23_sound a b (fun r0 w1 => r0 = decide (xs = ys) ∧ Below w.heap.size w w1) w ?_
  unfold F23
  have hna := ha.1
  have hnb := hb.1
  have hm : a.n ≤ 9223372036854775807 := Nat.le_trans ha.2.1 (by have := ha.2.2.1; simpa [maxLen] using this)
  refine ⟨fun hne => ⟨?_, Below.refl _ _⟩, fun he => ?_⟩
  · symm
    refine decide_eq_false fun h => hne ?_
    have := congrArg List.length h
    omega
  · refine ⟨fun i wr => ∃ j : Nat, i = (j : Int) ∧ j ≤ xs.length ∧ (∀ t (h1 : t < xs.length) (h2 : t < ys.length), t < j → xs[t] = ys[t]) ∧ Below w.heap.size w wr, fun i _ => (xs.length - i).toNat, ⟨0, rfl, by omega, fun t _ _ h => by omega, Below.refl _ _⟩, ?_⟩
    rintro _ wr ⟨j, rfl, hj, heq, hbw⟩
    unfold F23_l1
    refine ⟨fun hlt => ?_, fun hge => ⟨?_, hbw⟩⟩
    · have h1 : j < xs.length := by omega
      have h2 : j < ys.length := by omega
      obtain ⟨a1, ha1, hc1⟩ := (ha.below hbw).at j h1
      obtain ⟨a2, ha2, hc2⟩ := (hb.below hbw).at j h2
      refine ⟨by omega, hlt, a1, ha1, _, hc1, by omega, by omega, a2, ha2, _, hc2, ?_⟩
      rintro _ ⟨m, rfl⟩
      refine ⟨fun hne => ⟨?_, below_draw hbw m⟩, fun hee => ?_⟩
      · symm
        refine decide_eq_false fun h => hne ?_
        subst h; rfl
      · rw [w_i64 (by omega) (by omega)]
        refine ⟨⟨j + 1, by omega, by omega, fun t h3 h4 htj => ?_, below_draw hbw m⟩, by (try dsimp only); omega⟩
        by_cases htt : t = j
        · subst htt; exact hee
        · exact heq t h3 h4 (by omega)
    · symm
      refine decide_eq_true (List.ext_getElem (by omega) fun t h1 h2 => heq t h1 h2 (by omega))
theorem C14 (h : Rd E4 w s xs) : Calls Try.prog 14 #[.slice s.a s.n s.c] w (fun e w1 => ∃ (r0 : Sl), e = .returned (.slice r0.a r0.n r0.c : Value) ∧ (Rd E4 w r0 (xs.take 400) ∧ w1 = w)) := by
  refine F14_sound s (fun r0 w1 => Rd E4 w r0 (xs.take 400) ∧ w1 = w) w ?_
  unfold F14
  have hn := h.1
  refine ⟨fun h0 => ?_, fun h0 => ⟨?_, rfl⟩⟩
  · exact ⟨⟨_, _, _⟩, cut_hi (w := w) tyU s _ 400 rfl (by have := h.2.1; omega), h.take 400 (by omega), rfl⟩
  · rw [List.take_of_length_le (by omega)]; exact h
abbrev far : List Int := [4294967295, 4294967295, 4294967295]
def Lent (w : World) (s : Sl) (xs : List Int) : Prop := xs.length = s.n ∧ Rd E4 w ⟨s.a, s.n + 3, s.c⟩ (xs ++ far)
theorem Lent.below {w' : World} (h : Lent w s xs) (hb : Below w.heap.size w w') : Lent w' s xs := ⟨h.1, h.2.below hb⟩
theorem Lent.rd (h : Lent w s xs) : Rd E4 w s xs := by
  have := h.2.take s.n (by rw [List.length_append, h.1]; omega)
  rw [List.take_append_of_le_length (by rw [h.1]; exact Nat.le_refl _), List.take_of_length_le (by rw [h.1]; exact Nat.le_refl _)] at this
  exact this
theorem row_u32 (w : World) (cs : List Int) (hm : cs.length ≤ maxLen) : Rd E4 (w.alloc (.cells (cs.map E4).toArray 23)) ⟨some ⟨w.heap.size, 0, none⟩, cs.length, cs.length⟩ cs := by
  refine ⟨rfl, Nat.le_refl _, hm, fun _ => ⟨_, rfl, fun j hj => ?_⟩⟩
  have := cell_of_row (w.alloc (.cells (cs.map E4).toArray 23)) w.heap.size j (cs.map E4).toArray 23 (0, 0) (heap_alloc_new w _)
  rw [add_lit, this]
  simp [hj]
theorem C15 (h : Rd E4 w s xs) (hl : xs.length ≤ 1000000) : Calls Try.prog 15 #[.slice s.a s.n s.c] w (fun e w1 => ∃ (r0 : Sl), e = .returned (.slice r0.a r0.n r0.c : Value) ∧ (Lent w1 r0 xs ∧ Below w.heap.size w w1)) := by
  refine F15_sound s (fun r0 w1 => Lent w1 r0 xs ∧ Below w.heap.size w w1) w ?_
  unfold F15
  have hn := h.1
  obtain ⟨s2, w2, r2, o2, b2⟩ := ap_nil (ty := 22) tyU e4one h (by omega)
  refine ⟨s2, w2, r2, ?_⟩
  rintro _ rfl
  have hrow := row_u32 w2 far (by decide)
  have B3 : Below w2.heap.size w2 (w2.alloc (.cells #[.int .u32 4294967295, .int .u32 4294967295, .int .u32 4294967295] 23)) := (Below.refl _ _).alloc (Nat.le_refl _) _
  obtain ⟨s3, w3, r3, a3⟩ := ap_many (ty := 22) (w := w2.alloc (.cells #[.int .u32 4294967295, .int .u32 4294967295, .int .u32 4294967295] 23)) tyU e4one (o2.below B3) hrow (Nat.le_trans b2.size B3.size) (by simp; omega)
  have b3 := a3.below (o2.below B3) (Nat.le_trans b2.size B3.size) (b2.trans (B3.mono b2.size))
  have hl3 := a3.own.len
  rw [List.length_append] at hl3
  have hc3 := a3.own.rd.2.1
  simp only [List.length_cons, List.length_nil] at hl3
  refine ⟨s3, w3, r3, ⟨s3.a, s.n, s3.c⟩, cut_hi (w := w3) tyU s3 _ s.n rfl (by omega), ⟨hn, ?_⟩, b3⟩
  have h4 := a3.own.rd
  have e : (⟨s3.a, s.n + 3, s3.c⟩ : Sl) = s3 := by cases s3; simp_all
  show Rd E4 w3 ⟨s3.a, s.n + 3, s3.c⟩ (xs ++ far)
  rw [e]; exact h4
theorem C30 (h : Lent w s xs) (hb : Rd E4 w b xs) (hl : xs.length ≤ 1000000) : Calls Try.prog 30 #[.slice s.a s.n s.c, .slice b.a b.n b.c] w (fun e w1 => ∃ (r0 : Bool), e = .returned (.bool r0 : Value) ∧ (r0 = true ∧ Below w.heap.size w w1)) := by
  refine F30_sound s b (fun r0 w1 => r0 = true ∧ Below w.heap.size w w1) w ?_
  unfold F30 F30_j1
  have h1 := h.1
  have hn := hb.1
  have hc := h.2.2.1
  dsimp only at hc
  refine ⟨⟨s.a, s.n + 3, s.c⟩, ?_, ?_⟩
  · rw [w_i64 (by omega) (by omega)]
    exact cut_hi (w := w) tyU s _ (s.n + 3) (by omega) hc
  · refine (C23 h.rd hb).mono ?_
    rintro _ w5 ⟨_, rfl, rfl, b5⟩
    refine ⟨_, rfl, fun _ => ?_, fun hf => by simp at hf⟩
    refine ⟨⟨_, _, _⟩, cut_lo (w := w5) tyU ⟨s.a, s.n + 3, s.c⟩ _ b.n rfl (by (try dsimp only); omega), ?_⟩
    rintro _ rfl
    have B6 : Below w5.heap.size w5 (w5.alloc (.cells #[.int .u32 4294967295, .int .u32 4294967295, .int .u32 4294967295] 23)) := (Below.refl _ _).alloc (Nat.le_refl _) _
    have hrow := row_u32 w5 far (by decide)
    have hd := ((h.2.below b5).drop b.n (by rw [List.length_append]; omega)).below B6
    rw [List.drop_append_of_le_length (by omega), List.drop_of_length_le (by omega), List.nil_append] at hd
    refine (C23 hd hrow).mono ?_
    rintro _ w9 ⟨_, rfl, rfl, b9⟩
    have B7 := b5.trans (B6.mono b5.size)
    exact ⟨_, rfl, by decide, B7.trans (b9.mono B7.size)⟩
theorem C29 {base : Nat} (h : Own E4 23 base w s xs) (hl : xs.length ≤ 1000000) : Calls Try.prog 29 #[.slice s.a s.n s.c] w (fun e w1 => e = .returned (.tuple #[]) ∧ Gr (fun k => s.blk = some k) w w1) := by
  refine F29_sound s (fun w1 => Gr (fun k => s.blk = some k) w w1) w ?_
  unfold F29
  have hn := h.len
  refine ⟨fun i wr => ∃ j : Nat, ∃ ys, i = (j : Int) ∧ j ≤ xs.length ∧ ys.length = xs.length ∧ Own E4 23 0 wr s ys ∧ Gr (fun k => s.blk = some k) w wr, fun i _ => (xs.length - i).toNat, ⟨0, xs, rfl, by omega, rfl, h.lower (Nat.zero_le _), Gr.refl _ _⟩, ?_⟩
  rintro _ wr ⟨j, ys, rfl, hj, hyl, ho, hg⟩
  unfold F29_l1
  refine ⟨fun hlt => ?_, fun hge => ?_⟩
  · obtain ⟨a1, ha1, hblk, hcell, o2, g2⟩ := ho.set j (by omega) 7
    refine ⟨by omega, hlt, a1, ha1, hcell, ?_⟩
    rintro _ rfl
    rw [w_i64 (by omega) (by omega)]
    exact ⟨⟨j + 1, ys.set j 7, by omega, by omega, by rw [List.length_set]; exact hyl, o2, hg.trans (Gr.row g2 (fun b hb => hb)) (fun i _ hi => hi)⟩, by (try dsimp only); omega⟩
  · refine ⟨fun st wr => ∃ j : Nat, ∃ ys, st.2 = (j : Int) ∧ j ≤ 9 ∧ ys.length = xs.length + j ∧ Own E4 23 0 wr st.1 ys ∧ Gr (fun k => s.blk = some k) w wr ∧ (∀ k, k < w.heap.size → st.1.blk = some k → s.blk = some k), fun st _ => (9 - st.2).toNat, ⟨0, ys, rfl, by omega, by omega, ho, hg, fun k _ hk => hk⟩, ?_⟩
    rintro ⟨l, _⟩ wr ⟨j, ys, rfl, hj, hyl, ho, hg, hk⟩
    dsimp only at ho hk
    unfold F29_l2
    refine ⟨fun hlt => ?_, fun hge => hg⟩
    rintro _ rfl
    obtain ⟨s2, w2, r2, a2⟩ := ap_one (ty := 22) (w := wr) tyU e4one ho 7 (Nat.zero_le _) (by omega)
    refine ⟨s2, w2, r2, ?_⟩
    rw [w_i64 (by omega) (by omega)]
    refine ⟨⟨j + 1, _, by (try dsimp only); omega, by omega, by rw [List.length_append]; simp; omega, a2.own, hg.trans (Gr.row a2.grown (fun b hb => hb)) (fun i hi hb => hk i hi hb), fun k hkw hb => ?_⟩, by (try dsimp only); omega⟩
    rcases a2.blk with e | ⟨b, e, hb'⟩
    · exact hk k hkw (e ▸ hb)
    · have := hg.size
      dsimp only at hb
      rw [e] at hb
      have hbk : b = k := Option.some.inj hb
      exact absurd hkw (by rw [← hbk]; exact Nat.not_lt.2 (Nat.le_trans this hb'))
theorem row_u8 (w : World) (cs : List Int) (hm : cs.length ≤ maxLen) : Rd B8 (w.alloc (.cells (cs.map B8).toArray 5)) ⟨some ⟨w.heap.size, 0, none⟩, cs.length, cs.length⟩ cs := by
  refine ⟨rfl, Nat.le_refl _, hm, fun _ => ⟨_, rfl, fun j hj => ?_⟩⟩
  have := cell_of_row (w.alloc (.cells (cs.map B8).toArray 5)) w.heap.size j (cs.map B8).toArray 5 (0, 0) (heap_alloc_new w _)
  rw [add_lit, this]
  simp [hj]
theorem row3 (w : World) (x y z : Int) : Rd E4 (w.alloc (.cells #[.int .u32 x, .int .u32 y, .int .u32 z] 23)) ⟨some ⟨w.heap.size, 0, none⟩, 3, 3⟩ [x, y, z] := row_u32 w [x, y, z] (by simp [maxLen])
theorem row2 (w : World) (x y : Int) : Rd E4 (w.alloc (.cells #[.int .u32 x, .int .u32 y] 23)) ⟨some ⟨w.heap.size, 0, none⟩, 2, 2⟩ [x, y] := row_u32 w [x, y] (by simp [maxLen])
theorem row1 (w : World) (x : Int) : Rd E4 (w.alloc (.cells #[.int .u32 x] 23)) ⟨some ⟨w.heap.size, 0, none⟩, 1, 1⟩ [x] := row_u32 w [x] (by simp [maxLen])
theorem row4 (w : World) (x y z t : Int) : Rd E4 (w.alloc (.cells #[.int .u32 x, .int .u32 y, .int .u32 z, .int .u32 t] 23)) ⟨some ⟨w.heap.size, 0, none⟩, 4, 4⟩ [x, y, z, t] := row_u32 w [x, y, z, t] (by simp [maxLen])
theorem row4b (w : World) (x y z t : Int) : Rd B8 (w.alloc (.cells #[.int .u8 x, .int .u8 y, .int .u8 z, .int .u8 t] 5)) ⟨some ⟨w.heap.size, 0, none⟩, 4, 4⟩ [x, y, z, t] := row_u8 w [x, y, z, t] (by simp [maxLen])
theorem below_row (w : World) (o : Obj) : Below w.heap.size w (w.alloc o) := (Below.refl _ _).alloc (Nat.le_refl _) _
theorem ev_and : joi false true false [1, 3, 5] [3, 4, 5] = [3, 5] := by rw [joi_and]; rfl
theorem ev_or : joi true true true [1, 3, 5] [3, 4, 5] = [1, 3, 4, 5] := by rw [joi_or]; rfl
theorem ev_not : joi true false false [1, 3, 5] [3, 4, 5] = [1] := by rw [joi_not]; rfl
theorem ev_no : joi false true false [1, 1] [3, 4, 5] = [] := by rw [joi_and]; rfl
theorem ev_has : hasS [1, 3, 5] 3 = true := by rfl
theorem ev_add : addS [1, 3, 5] 4 = ([1, 3, 4, 5], true) := by rfl
theorem ev_tak : takS [1, 3, 5] 4 = ([1, 3, 5], false) := by rfl
theorem ev_put : putS [] [1, 3, 4294967295] = ([3, 1, 1, 251, 255, 255, 255, 15], true) := by
  have h3 : uv 3 = [3] := uv_lt (by omega)
  have h1 : uv 1 = [1] := uv_lt (by omega)
  have e5 : uv 15 = [15] := uv_lt (by omega)
  have e4 : uv 2047 = 255 :: uv 15 := uv_ge (n := 2047) (by omega)
  have e3 : uv 262143 = 255 :: uv 2047 := uv_ge (n := 262143) (by omega)
  have e2 : uv 33554431 = 255 :: uv 262143 := uv_ge (n := 33554431) (by omega)
  have e1 : ∀ n : Nat, n = 4294967291 → uv n = 251 :: uv 33554431 := fun n hn => by
    have h1 := uv_ge (n := n) (by omega)
    have h2 : n / 128 = 33554431 := by omega
    have h3 : ((n % 128 + 128 : Nat) : Int) = 251 := by omega
    rw [h2, h3] at h1; exact h1
  have hr : rise [1, 3, 4294967295] = true := by decide
  have hg : gp 3 [4294967295] = [251, 255, 255, 255, 15] := by
    unfold gp
    rw [e1 _ (by omega), e2, e3, e4, e5]; rfl
  have hg2 : gp 1 [3, 4294967295] = uv 1 ++ gp 3 [4294967295] := by rw [gp]; rfl
  have hg3 : gp (-1) [1, 3, 4294967295] = uv 1 ++ gp 1 [3, 4294967295] := by rw [gp]; rfl
  unfold putS
  rw [if_pos hr, hg3, hg2, hg]
  show ([] ++ uv 3 ++ (uv 1 ++ (uv 1 ++ [251, 255, 255, 255, 15])), true) = _
  rw [h3, h1]; rfl
theorem ev_get : getS [2, 1, 0, 9] = ([1, 2], 3) := by decide +kernel
end
end Go.Proofs.Ytjgijifankaglaa
