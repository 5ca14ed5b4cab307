/- Contracts of the other functions of package num and of its reference. -/
import Derived.Test.YthhcaaellhdkiaaNT
namespace Go.Proofs.Ythhcaaellhdkiaa
open Go Go.RowKit Go.Proofs.Ythhcaaellhdkiaa.SX
set_option linter.unusedVariables false

theorem rd_cut {b : Sl} {xs : List Int} {w : World} (hr : Rd B8 w b xs) (lo hi : Int) (l h : Nat) (hlo : lo = l) (hhi : hi = h) (hlh : l ≤ h) (hc : h ≤ xs.length) :
    ∃ s : Sl, (∀ w' : World, (Instr.sliceAt 22 (.slice b.a b.n b.c) (some (.int .i64 lo)) (some (.int .i64 hi)) none).run Try.prog w' = .ok (.slice s.a s.n s.c) w') ∧ Rd B8 w s ((xs.take h).drop l) := by
  have h1 := hr.len
  have h2 := hr.2.1
  exact ⟨⟨_, _, _⟩, fun w' => cut_run ty22 b lo hi l h hlo hhi hlh (by omega), hr.mid l h hlh hc⟩
theorem rd_hi {b : Sl} {xs : List Int} {w : World} (hr : Rd B8 w b xs) (hi : Int) (h : Nat) (hhi : hi = h) (hc : h ≤ xs.length) :
    ∃ s : Sl, (∀ w' : World, (Instr.sliceAt 22 (.slice b.a b.n b.c) none (some (.int .i64 hi)) none).run Try.prog w' = .ok (.slice s.a s.n s.c) w') ∧ Rd B8 w s (xs.take h) := by
  have h1 := hr.len
  have h2 := hr.2.1
  exact ⟨⟨_, _, _⟩, fun w' => cut_hi ty22 b hi h hhi (by omega), hr.take h hc⟩
theorem rd_str {b : Sl} {xs : List Int} {w : World} (hr : Rd B8 w b xs) : (convert 22 9 (.slice b.a b.n b.c)).run Try.prog w = .ok (.string (strOfNums xs)) w := by
  have h1 := hr.len
  rcases Nat.eq_zero_or_pos b.n with h0 | h0
  · obtain rfl : xs = [] := List.eq_nil_of_length_eq_zero (by omega)
    rw [run_convert_bytes_string w 22 9 5 _ _ _ Try.underlying22 Try.underlying5 Try.underlying9, h0]
    rcases b.a with _ | a
    · simp [Conv.bytesToString]; rfl
    · have := run_bytesToString w a 0 b.c [] (run_loadCells_list (P := Try.prog) w a [] (by simp))
      exact this
  · obtain ⟨a, ha, hc⟩ := hr.2.2.2 h0
    rw [run_convert_bytes_string w 22 9 5 _ _ _ Try.underlying22 Try.underlying5 Try.underlying9, ha]
    have hl := run_loadCells_list (P := Try.prog) w a (xs.map B8) (fun j v hj => by
      have hjl : j < xs.length := by
        have := (List.getElem?_eq_some_iff.1 hj).1
        simpa using this
      rw [hc j hjl]
      simpa [hjl] using hj)
    simp only [List.length_map, h1] at hl
    rw [run_bytesToString w a b.n b.c _ hl, foldl_push_bytes]
    simp [strOfNums, ByteArray.empty, ByteArray.emptyWithCapacity]
    rfl
theorem uv_pos (n : Nat) : 0 < (uv n).length := by
  by_cases h : n < 128
  · rw [uv_lt h]; simp
  · rw [uv_ge h]; simp

theorem F14_spec {b : Sl} {xs : List Int} {n : Nat} {K : Sl → World → Prop} {w : World} (hr : Rd B8 w b xs) (hl : xs.length + 10 ≤ 140737488355328) (hn : n < 18446744073709551616)
    (hK : ∀ s w', Own B8 5 w.heap.size w' s (xs ++ uv n) → Below w.heap.size w w' → K s w') : F14 b n K w := by
  unfold F14
  obtain ⟨s1, w1, h1, ho1, hb1⟩ := ap_nil (ty := 22) ty22 b8one hr (by omega)
  refine ⟨s1, w1, h1, ?_⟩
  refine ⟨fun s wr => ∃ (N : Nat) (ys : List Int), s.1 = (N : Int) ∧ N < 18446744073709551616 ∧ ys ++ uv N = uv n ∧ Own B8 5 w.heap.size wr s.2 (xs ++ ys) ∧ Below w.heap.size w wr, fun s _ => s.1.toNat, ⟨n, [], rfl, hn, rfl, by simpa using ho1, hb1⟩, ?_⟩
  rintro ⟨_, out⟩ wr ⟨N, ys, rfl, hN, he, ho, hb⟩
  dsimp only at ho
  unfold F14_l1
  have hyl : ys.length ≤ 9 := by
    have h2 := uv_len10 hn
    have h3 := uv_pos N
    rw [← he] at h2
    simp at h2; omega
  refine ⟨fun h128 => ?_, fun h128 => ?_⟩
  · rintro _ rfl
    have e1 : IntKind.u8.wrap (IntKind.u64.wrap ((Int.tmod (N : Int) 128) + 128)) = ((N % 128 + 128 : Nat) : Int) := by
      rw [tm (by omega), w_u64 (by omega) (by omega), w_u8 (by omega) (by omega)]; omega
    rw [e1]
    obtain ⟨s2, w2, h1, h2⟩ := ap_one (ty := 22) (w := wr) ty22 b8one ho ((N % 128 + 128 : Nat) : Int) hb.size (by simp; omega)
    refine ⟨s2, w2, h1, ⟨N / 128, ys ++ [((N % 128 + 128 : Nat) : Int)], ?_, by omega, ?_, ?_, h2.below ho hb.size hb⟩, ?_⟩
    · show IntKind.u64.wrap (Int.tdiv (N : Int) 128) = _
      rw [td (by omega), w_u64 (by omega) (by omega)]; rfl
    · rw [← he, uv_ge (n := N) (by omega)]; simp
    · rw [← List.append_assoc]; exact h2.own
    · show (IntKind.u64.wrap (Int.tdiv (N : Int) 128)).toNat < ((N : Int)).toNat
      rw [td (by omega), w_u64 (by omega) (by omega)]; omega
  · rintro _ rfl
    rw [w_u8 (by omega) (by omega)]
    obtain ⟨s2, w2, h1, h2⟩ := ap_one (ty := 22) (w := wr) ty22 b8one ho (N : Int) hb.size (by simp; omega)
    refine ⟨s2, w2, h1, hK _ _ ?_ (h2.below ho hb.size hb)⟩
    rw [← he, uv_lt (by omega), ← List.append_assoc]
    exact h2.own
theorem C14 {b : Sl} {xs : List Int} {n : Nat} {m : Int} {K : Sl → World → Prop} {w : World} (hm : m = n) (hr : Rd B8 w b xs) (hl : xs.length + 10 ≤ 140737488355328) (hn : n < 18446744073709551616)
    (hK : ∀ s w', Own B8 5 w.heap.size w' s (xs ++ uv n) → Below w.heap.size w w' → K s w') : Calls Try.prog 14 #[.slice b.a b.n b.c, .int .u64 m] w (fun e w1 => ∃ (r0 : Sl), e = .returned (.slice r0.a r0.n r0.c : Value) ∧ K r0 w1) := by
  subst hm; exact F14_sound _ _ _ _ (F14_spec hr hl hn hK)

theorem zig_range {n : Int} (h1 : -9223372036854775808 ≤ n) (h2 : n ≤ 9223372036854775807) : 0 ≤ zig n ∧ (zig n).toNat < 18446744073709551616 := by
  unfold zig; split <;> omega
theorem C18 {b : Sl} {xs : List Int} {n : Int} {K : Sl → World → Prop} {w : World} (hr : Rd B8 w b xs) (hl : xs.length + 10 ≤ 140737488355328) (h1 : -9223372036854775808 ≤ n) (h2 : n ≤ 9223372036854775807)
    (hK : ∀ s w', Own B8 5 w.heap.size w' s (xs ++ uv (zig n).toNat) → Below w.heap.size w w' → K s w') : Calls Try.prog 18 #[.slice b.a b.n b.c, .int .i64 n] w (fun e w1 => ∃ (r0 : Sl), e = .returned (.slice r0.a r0.n r0.c : Value) ∧ K r0 w1) := by
  refine F18_sound _ _ _ _ ?_
  unfold F18
  have hz := zig_range h1 h2
  exact C17 (n := (zig n).toNat) (by rw [zig_bits h1 h2]; omega) hr hl hz.2 hK
theorem C15 {b : Sl} {xs : List Int} {n : Int} {K : Sl → World → Prop} {w : World} (hr : Rd B8 w b xs) (hl : xs.length + 10 ≤ 140737488355328) (h1 : -9223372036854775808 ≤ n) (h2 : n ≤ 9223372036854775807)
    (hK : ∀ s w', Own B8 5 w.heap.size w' s (xs ++ uv (zig n).toNat) → Below w.heap.size w w' → K s w') : Calls Try.prog 15 #[.slice b.a b.n b.c, .int .i64 n] w (fun e w1 => ∃ (r0 : Sl), e = .returned (.slice r0.a r0.n r0.c : Value) ∧ K r0 w1) := by
  refine F15_sound _ _ _ _ ?_
  unfold F15
  have hz := zig_range h1 h2
  refine ⟨fun hn => C14 (n := (zig n).toNat) ?_ hr hl hz.2 hK, fun hn => C14 (n := (zig n).toNat) ?_ hr hl hz.2 hK⟩
  · simp only [wm_u64, wm_i64]
    unfold zig at hz ⊢
    rw [if_pos hn] at hz ⊢
    omega
  · simp only [wm_u64]
    unfold zig at hz ⊢
    rw [if_neg hn] at hz ⊢
    omega

/-- what Int reads -/
def sint (xs : List Int) : Int × Int := (zag (uint xs).1, (uint xs).2)
theorem C25 {b : Sl} {xs : List Int} {w : World} (hr : Rd B8 w b xs) (hb : bys xs) : Calls Try.prog 25 #[.slice b.a b.n b.c] w (fun e w1 => ∃ (r0 : Int), ∃ (r1 : Int), e = .returned (.tuple #[.int .i64 r0, .int .i64 r1]) ∧ (r0 = (sint xs).1 ∧ r1 = (sint xs).2 ∧ w1 = w)) := by
  refine F25_sound b (fun r0 r1 w1 => r0 = (sint xs).1 ∧ r1 = (sint xs).2 ∧ w1 = w) w ?_
  unfold F25
  refine (C24 hr hb).mono ?_
  rintro e w1 ⟨r0, r1, rfl, rfl, rfl, rfl⟩
  have := uint_range hb
  exact ⟨_, _, rfl, zag_bits this.1 (by omega), rfl, rfl⟩
theorem C55 {b : Sl} {xs : List Int} {w : World} (hr : Rd B8 w b xs) (hb : bys xs) : Calls Try.prog 55 #[.slice b.a b.n b.c] w (fun e w1 => ∃ (r0 : Int), ∃ (r1 : Int), e = .returned (.tuple #[.int .i64 r0, .int .i64 r1]) ∧ (r0 = (sint xs).1 ∧ r1 = (sint xs).2 ∧ w1 = w)) := by
  refine F55_sound b (fun r0 r1 w1 => r0 = (sint xs).1 ∧ r1 = (sint xs).2 ∧ w1 = w) w ?_
  unfold F55
  refine (C54 hr hb).mono ?_
  rintro e w1 ⟨r0, r1, rfl, rfl, rfl, rfl⟩
  have h := uint_range hb
  refine ⟨_, _, rfl, fun h0 => ?_, fun h0 => ⟨fun h1 => ?_, fun h1 => ?_⟩⟩
  · have := h.2.2.2.2.2 h0
    refine ⟨?_, ?_, rfl⟩
    · show 0 = zag _; rw [this]; rfl
    · exact h0.symm
  · rw [tm h.1] at h1
    rw [td h.1, w_u64 (by omega) (by omega)]
    refine ⟨?_, rfl, rfl⟩
    show _ = zag _
    unfold zag
    rw [if_pos h1, w_i64 (n := (uint xs).1 / 2) (by omega) (by omega), w_i64 (n := 0 - (uint xs).1 / 2) (by omega) (by omega), w_i64 (by omega) (by omega)]
    omega
  · rw [tm h.1] at h1
    rw [td h.1, w_u64 (by omega) (by omega)]
    refine ⟨?_, rfl, rfl⟩
    show _ = zag _
    unfold zag
    rw [if_neg h1, w_i64 (n := (uint xs).1 / 2) (by omega) (by omega)]

theorem C19 {b s : Sl} {xs ys : List Int} {K : Sl → World → Prop} {w : World} (hr : Rd B8 w b xs) (hs : Rd B8 w s ys) (hl : xs.length + ys.length + 10 ≤ 140737488355328)
    (hK : ∀ s w', Own B8 5 w.heap.size w' s (xs ++ uv ys.length ++ ys) → Below w.heap.size w w' → K s w') : Calls Try.prog 19 #[.slice b.a b.n b.c, .slice s.a s.n s.c] w (fun e w1 => ∃ (r0 : Sl), e = .returned (.slice r0.a r0.n r0.c : Value) ∧ K r0 w1) := by
  refine F19_sound _ _ _ _ ?_
  unfold F19
  have hn := hs.len
  refine C17 (n := ys.length) (by rw [w_u64 (by omega) (by omega)]; omega) hr (by omega) (by omega) ?_
  intro s1 w1 ho hb
  have hul := uv_len10 (n := ys.length) (by omega)
  obtain ⟨s2, w2, h1, h2⟩ := ap_many (ty := 22) (w := w1) ty22 b8one ho (hs.below hb) hb.size (by simp; omega)
  exact ⟨s2, w2, h1, hK _ _ h2.own (h2.below ho hb.size hb)⟩
theorem C16 {b s : Sl} {xs ys : List Int} {K : Sl → World → Prop} {w : World} (hr : Rd B8 w b xs) (hs : Rd B8 w s ys) (hl : xs.length + ys.length + 10 ≤ 140737488355328)
    (hK : ∀ s w', Own B8 5 w.heap.size w' s (xs ++ uv ys.length ++ ys) → Below w.heap.size w w' → K s w') : Calls Try.prog 16 #[.slice b.a b.n b.c, .slice s.a s.n s.c] w (fun e w1 => ∃ (r0 : Sl), e = .returned (.slice r0.a r0.n r0.c : Value) ∧ K r0 w1) := by
  refine F16_sound _ _ _ _ ?_
  unfold F16
  have hn := hs.len
  refine C14 (n := ys.length) (by rw [w_u64 (by omega) (by omega)]; omega) hr (by omega) (by omega) ?_
  intro s1 w1 ho hb
  have hul := uv_len10 (n := ys.length) (by omega)
  obtain ⟨s2, w2, h1, h2⟩ := ap_many (ty := 22) (w := w1) ty22 b8one ho (hs.below hb) hb.size (by simp; omega)
  exact ⟨s2, w2, h1, hK _ _ h2.own (h2.below ho hb.size hb)⟩

/-- what Bytes reads -/
def byt (xs : List Int) (most : Int) : List Int × Int :=
  if (uint xs).2 = 0 ∨ most < 0 ∨ most < (uint xs).1 ∨ (xs.length : Int) - (uint xs).2 < (uint xs).1 then ([], 0)
  else ((xs.drop (uint xs).2.toNat).take (uint xs).1.toNat, (uint xs).2 + (uint xs).1)
theorem byt_bad {xs : List Int} {most : Int} (h : (uint xs).2 = 0 ∨ most < 0 ∨ most < (uint xs).1 ∨ (xs.length : Int) - (uint xs).2 < (uint xs).1) : byt xs most = ([], 0) := if_pos h
theorem byt_ok {xs : List Int} {most : Int} (h : ¬ ((uint xs).2 = 0 ∨ most < 0 ∨ most < (uint xs).1 ∨ (xs.length : Int) - (uint xs).2 < (uint xs).1)) : byt xs most = ((xs.drop (uint xs).2.toNat).take (uint xs).1.toNat, (uint xs).2 + (uint xs).1) := if_neg h

theorem C26 {b : Sl} {xs : List Int} {most : Int} {w : World} (hr : Rd B8 w b xs) (hb : bys xs) (hl : xs.length ≤ 140737488355328) (hm : most ≤ 9223372036854775807) :
    Calls Try.prog 26 #[.slice b.a b.n b.c, .int .i64 most] w (fun e w1 => ∃ (r0 : Sl), ∃ (r1 : Int), e = .returned (.tuple #[.slice r0.a r0.n r0.c, .int .i64 r1]) ∧ (Own B8 5 w.heap.size w1 r0 (byt xs most).1 ∧ r1 = (byt xs most).2 ∧ Below w.heap.size w w1)) := by
  refine F26_sound b most (fun r0 r1 w1 => Own B8 5 w.heap.size w1 r0 (byt xs most).1 ∧ r1 = (byt xs most).2 ∧ Below w.heap.size w w1) w ?_
  unfold F26
  refine (C24 hr hb).mono ?_
  rintro e w1 ⟨r0, r1, rfl, rfl, rfl, rfl⟩
  have h := uint_range hb
  have hn := hr.len
  have hc := hr.2.1
  have hbad : ((uint xs).2 = 0 ∨ most < 0 ∨ most < (uint xs).1 ∨ (xs.length : Int) - (uint xs).2 < (uint xs).1) → Own B8 5 w1.heap.size w1 ⟨none, 0, 0⟩ (byt xs most).1 ∧ 0 = (byt xs most).2 ∧ Below w1.heap.size w1 w1 := by
    intro hz; rw [byt_bad hz]; exact ⟨Own.nil, rfl, Below.refl _ _⟩
  refine ⟨_, _, rfl, fun h0 => hbad (.inl h0), fun h0 => ⟨fun hm0 => hbad (.inr (.inl hm0)), fun hm0 => ?_⟩⟩
  rw [w_u64 (n := most) (by omega) (by omega), w_i64 (n := (b.n : Int) - (uint xs).2) (by omega) (by omega), w_u64 (n := (b.n : Int) - (uint xs).2) (by omega) (by omega)]
  refine ⟨fun h1 => hbad (by omega), fun h1 => ⟨fun h2 => hbad (by omega), fun h2 => ?_⟩⟩
  rw [w_i64 (n := (uint xs).1) (by omega) (by omega), w_i64 (n := (uint xs).2 + (uint xs).1) (by omega) (by omega), byt_ok (by omega)]
  obtain ⟨sm, hcut, hmid⟩ := rd_cut hr (uint xs).2 ((uint xs).2 + (uint xs).1) (uint xs).2.toNat ((uint xs).2 + (uint xs).1).toNat (by omega) (by omega) (by omega) (by omega)
  refine ⟨sm, hcut _, ?_⟩
  refine (C53 (room := 0) hmid (by simp; omega) (K := fun s w' => Own B8 5 w1.heap.size w' s _ ∧ Below w1.heap.size w1 w') (fun s w' h1 h2 => ⟨h1, h2⟩)).mono ?_
  rintro e w2 ⟨s2, rfl, h3, h4⟩
  refine ⟨s2, rfl, ?_, rfl, h4⟩
  have : ((uint xs).2 + (uint xs).1).toNat - (uint xs).2.toNat = (uint xs).1.toNat := by omega
  rw [List.drop_take, this] at h3
  exact h3
theorem C56 {b : Sl} {xs : List Int} {most : Int} {w : World} (hr : Rd B8 w b xs) (hb : bys xs) (hl : xs.length ≤ 140737488355328) (hm : most ≤ 9223372036854775807) :
    Calls Try.prog 56 #[.slice b.a b.n b.c, .int .i64 most] w (fun e w1 => ∃ (r0 : Sl), ∃ (r1 : Int), e = .returned (.tuple #[.slice r0.a r0.n r0.c, .int .i64 r1]) ∧ (Own B8 5 w.heap.size w1 r0 (byt xs most).1 ∧ r1 = (byt xs most).2 ∧ Below w.heap.size w w1)) := by
  refine F56_sound b most (fun r0 r1 w1 => Own B8 5 w.heap.size w1 r0 (byt xs most).1 ∧ r1 = (byt xs most).2 ∧ Below w.heap.size w w1) w ?_
  unfold F56
  refine (C54 hr hb).mono ?_
  rintro e w1 ⟨r0, r1, rfl, rfl, rfl, rfl⟩
  have h := uint_range hb
  have hn := hr.len
  have hc := hr.2.1
  have hbad : ((uint xs).2 = 0 ∨ most < 0 ∨ most < (uint xs).1 ∨ (xs.length : Int) - (uint xs).2 < (uint xs).1) → Own B8 5 w1.heap.size w1 ⟨none, 0, 0⟩ (byt xs most).1 ∧ 0 = (byt xs most).2 ∧ Below w1.heap.size w1 w1 := by
    intro hz; rw [byt_bad hz]; exact ⟨Own.nil, rfl, Below.refl _ _⟩
  refine ⟨_, _, rfl, fun h0 => hbad (.inl h0), fun h0 => ⟨fun hm0 => hbad (.inr (.inl hm0)), fun hm0 => ?_⟩⟩
  rw [w_u64 (n := most) (by omega) (by omega), w_i64 (n := (b.n : Int) - (uint xs).2) (by omega) (by omega), w_u64 (n := (b.n : Int) - (uint xs).2) (by omega) (by omega)]
  refine ⟨fun h1 => hbad (by omega), fun h1 => ⟨fun h2 => hbad (by omega), fun h2 => ?_⟩⟩
  rw [w_i64 (n := (uint xs).1) (by omega) (by omega), w_i64 (n := (uint xs).2 + (uint xs).1) (by omega) (by omega), byt_ok (by omega)]
  obtain ⟨sm, hcut, hmid⟩ := rd_cut hr (uint xs).2 ((uint xs).2 + (uint xs).1) (uint xs).2.toNat ((uint xs).2 + (uint xs).1).toNat (by omega) (by omega) (by omega) (by omega)
  refine ⟨sm, hcut _, ?_⟩
  obtain ⟨s2, w2, h3, h4, h5⟩ := ap_nil (ty := 22) ty22 b8one hmid (by simp; omega)
  refine ⟨s2, w2, h3, ?_, rfl, h5⟩
  have : ((uint xs).2 + (uint xs).1).toNat - (uint xs).2.toNat = (uint xs).1.toNat := by omega
  rw [List.drop_take, this] at h4
  exact h4
end Go.Proofs.Ythhcaaellhdkiaa
