/- Package post: rising lists, gone along. -/
import Derived.Test.YtjgijifankaglaaNV
import Derived.Test.YtjgijifankaglaaPL
import Derived.Test.YtjgijifankaglaaGR
import Derived.Test.YtjgijifankaglaaGPa
import Derived.Lib.AppendZeros
namespace Go.Proofs.Ytjgijifankaglaa
open Go Go.RowKit Go.Proofs.Ytjgijifankaglaa.SX
set_option linter.unusedVariables false

abbrev E4 : Int → Value := Value.int .u32
theorem tyU : Ty Try.prog 22 23 (.int .u32 0) 4 := ⟨Try.underlying22, by kernel_rfl, rfl, by omega⟩
theorem e4one (x : Int) : (E4 x).oneCell' = true := rfl
theorem below_draw {B : Nat} {w w' : World} (h : Below B w w') (m : Nat) : Below B w (w'.drewN m) := ⟨h.os, h.tape, h.output, h.size, h.block⟩
theorem below_drew {B : Nat} {w w' : World} (h : Below B w w') : Below B w w'.drew := below_draw h 1
section
variable {w : World} {a b s : Sl} {xs ys : List Int} {n : Int}
theorem C63 (h : Rd E4 w s xs) : Calls Try.prog 63 #[.slice s.a s.n s.c] w (fun e w1 => ∃ (r0 : Bool), e = .returned (.bool r0 : Value) ∧ (r0 = rise xs ∧ Below w.heap.size w w1)) := by
  refine F63_sound s (fun r0 w1 => r0 = rise xs ∧ Below w.heap.size w w1) w ?_
  unfold F63
  have hn := h.1
  have hm : s.n ≤ 9223372036854775807 := Nat.le_trans h.2.1 (by have := h.2.2.1; simpa [maxLen] using this)
  refine ⟨fun i wr => ∃ j : Nat, i = (j : Int) ∧ 1 ≤ j ∧ (∀ t (ht : t + 1 < xs.length), t + 1 < j → xs[t] < xs[t + 1]) ∧ Below w.heap.size w wr ∧ (j ≤ xs.length ∨ j = 1), fun i _ => (xs.length + 1 - i).toNat, ⟨1, rfl, by omega, fun t _ ht => by omega, Below.refl _ _, .inr rfl⟩, ?_⟩
  rintro _ wr ⟨j, rfl, hj1, hup, hb, hjl⟩
  unfold F63_l1
  have hr := h.below hb
  refine ⟨fun hlt => ?_, fun hge => ⟨?_, hb⟩⟩
  · have hjx : j < xs.length := by omega
    obtain ⟨a1, ha1, hc1⟩ := hr.at (j - 1) (by omega)
    obtain ⟨a2, ha2, hc2⟩ := hr.at j hjx
    rw [w_i64 (n := (j : Int) - 1) (by omega) (by omega), show ((j : Int) - 1).toNat = j - 1 by omega]
    refine ⟨by omega, by omega, a1, ha1, _, hc1, by omega, hlt, a2, ha2, _, hc2, ?_⟩
    rintro _ ⟨m, rfl⟩
    refine ⟨fun hge => ⟨?_, below_draw hb m⟩, fun hlt' => ?_⟩
    · cases hr : rise xs with
      | false => rfl
      | true =>
        have := rise_ix.1 hr (j - 1) (by omega)
        have e : xs[j - 1 + 1]'(by omega) = xs[j] := by congr 1; omega
        rw [e] at this
        omega
    · rw [w_i64 (by omega) (by omega)]
      refine ⟨⟨j + 1, by omega, by omega, fun t ht htj => ?_, below_draw hb m, .inl (by omega)⟩, by (try dsimp only); omega⟩
      by_cases htt : t + 1 = j
      · subst htt
        simp only [Nat.add_sub_cancel] at hlt'
        omega
      · exact hup t ht (by omega)
  · symm
    rw [rise_ix]
    intro t ht
    exact hup t ht (by omega)
theorem push {w wq : World} {out s : Sl} {acc us : List Int} {c : Bool} {J : Sl → World → Prop} {y : Int} (hb : Below w.heap.size w wq) (ho : Own E4 23 w.heap.size wq out acc) (hr : Rd E4 w s (y :: us)) (hl : acc.length ≤ 1000000000000)
    (hJ : ∀ out' wq', Own E4 23 w.heap.size wq' out' (acc ++ opt c y) → Below w.heap.size w wq' → J out' wq') :
    ((c = true → (0 : Int) ≤ 0 ∧ 0 < (s.n : Int) ∧ ∃ (a_15 : Addr), s.a = some a_15 ∧ ∃ (t61_16 : Int), wq.cell? (a_15.add (Int.toNat 0)) = some (.int .u32 t61_16) ∧
      ∀ (w_17 : World), w_17 = wq.alloc (.cells #[.int .u32 t61_16] 23) → ∃ (t63_18 : Sl), ∃ (w_19 : World), (Builtin.append_ #[22, 22] 22 #[.slice out.a out.n out.c, .slice (some ⟨wq.heap.size, 0, none⟩) 1 1]).run Try.prog w_17 = .ok (.slice t63_18.a t63_18.n t63_18.c : Value) w_19 ∧ J t63_18 w_19) ∧ (c = false → J out wq)) := by
  refine ⟨fun hc => ?_, fun hc => ?_⟩
  · subst hc
    have hn := hr.1
    simp only [List.length_cons] at hn
    obtain ⟨a, ha, hcell⟩ := (hr.below hb).at 0 (by simp)
    refine ⟨by omega, by omega, a, ha, _, hcell, ?_⟩
    rintro _ rfl
    obtain ⟨s2, w2, h1, h2⟩ := ap_one (ty := 22) (w := wq) tyU e4one ho y hb.size (by omega)
    exact ⟨s2, w2, h1, hJ s2 w2 (by simpa [opt] using h2.own) (h2.below ho hb.size hb)⟩
  · subst hc
    exact hJ out wq (by simpa [opt] using ho) hb
theorem SX.Rd.tail {w : World} {s : Sl} {y : Int} {us : List Int} (h : Rd E4 w s (y :: us)) : ∃ t : Sl, (∀ w', (Instr.sliceAt 22 (.slice s.a s.n s.c : Value) (some (.int .i64 1 : Value)) none none).run Try.prog w' = .ok (.slice t.a t.n t.c : Value) w') ∧ Rd E4 w t us := by
  have hn := h.1
  simp only [List.length_cons] at hn
  exact ⟨⟨_, _, _⟩, fun w' => cut_lo (w := w') tyU s 1 1 rfl (by omega), h.drop 1 (by simp)⟩
theorem C62 (ha : Rd E4 w a xs) (hb : Rd E4 w b ys) (o c t : Bool) (hl : xs.length + ys.length ≤ 1000000000000) : Calls Try.prog 62 #[.slice a.a a.n a.c, .slice b.a b.n b.c, .bool o, .bool c, .bool t] w (fun e w1 => ∃ (r0 : Sl), e = .returned (.slice r0.a r0.n r0.c : Value) ∧ (Own E4 23 w.heap.size w1 r0 (joi o c t xs ys) ∧ Below w.heap.size w w1)) := by
  refine F62_sound a b o c t (fun r0 w1 => Own E4 23 w.heap.size w1 r0 (joi o c t xs ys) ∧ Below w.heap.size w w1) w ?_
  unfold F62
  refine (C63 ha).mono ?_
  rintro _ w7 ⟨_, rfl, rfl, b7⟩
  refine ⟨_, rfl, fun hx => ⟨by unfold joi; rw [hx]; exact Own.nil, b7⟩, fun hx => ?_⟩
  refine (C63 (hb.below b7)).mono ?_
  rintro _ w9 ⟨_, rfl, rfl, b9⟩
  have B9 := b7.trans (b9.mono b7.size)
  refine ⟨_, rfl, fun hy => ⟨by unfold joi; rw [hx, hy]; exact Own.nil, B9⟩, fun hy => ?_⟩
  have hj : joi o c t xs ys = jn o c t xs ys := by unfold joi; rw [hx, hy]; rfl
  rw [hj]
  refine ⟨fun st wr => ∃ us bs acc, Rd E4 w st.1 us ∧ Rd E4 w st.2.1 bs ∧ Own E4 23 w.heap.size wr st.2.2 acc ∧ acc ++ jn o c t us bs = jn o c t xs ys ∧ acc.length + us.length + bs.length ≤ xs.length + ys.length ∧ Below w.heap.size w wr, fun st _ => st.1.n + st.2.1.n,
    ⟨xs, ys, [], ha, hb, Own.nil, rfl, by simp, B9⟩, ?_⟩
  rintro ⟨sa, sb, out⟩ wr ⟨us, bs, acc, hra, hrb, ho, he, hlen, hbr⟩
  dsimp only at hra hrb ho
  have hna := hra.1
  have hnb := hrb.1
  unfold F62_l1
  rw [show @F62_j3 = @F62_j2 from rfl, show @F62_j15 = @F62_j5 from rfl]
  cases us with
  | nil =>
    simp only [List.length_nil] at hna
    refine ⟨fun h => absurd h (by omega), fun _ => ?_⟩
    cases bs with
    | nil =>
      simp only [List.length_nil] at hnb
      refine ⟨fun h => absurd h (by omega), fun _ => ⟨?_, hbr⟩⟩
      rw [jn, List.append_nil] at he
      rw [← he]; exact ho
    | cons y bs =>
      simp only [List.length_cons] at hnb hlen
      refine ⟨fun _ => ⟨fun h => absurd h (by omega), fun _ => ⟨fun h => absurd h (by omega), fun _ => ?_⟩⟩, fun h => absurd h (by omega)⟩
      rintro _ ⟨m1, rfl⟩
      refine ⟨fun _ => ?_, fun h => absurd h (by omega)⟩
      rintro _ ⟨m2, rfl⟩
      have hd : Below w.heap.size w ((wr.drewN m1).drewN m2) := below_draw (below_draw hbr m1) m2
      refine push (w := w) (J := fun s' w' => F62_j5 sa sb _ s' w') hd (ho.below (below_draw (below_draw (Below.refl _ _) m1) m2)) hrb (by omega) (fun out' wq' ho' hb' => ?_)
      unfold F62_j5
      obtain ⟨t', h1, h2⟩ := hrb.tail
      have h3 := h2.1
      have hal := ho'.len
      refine ⟨t', h1 wq', ⟨[], bs, acc ++ opt t y, hra, h2, ho', ?_, ?_, hb'⟩, by (try dsimp only); omega⟩
      · rw [← he, jn, List.append_assoc]
      · have : (opt t y).length ≤ 1 := by cases t <;> simp [opt]
        simp only [List.length_append, List.length_nil] at hlen ⊢; omega
  | cons x us =>
    simp only [List.length_cons] at hna hlen
    refine ⟨fun _ => ?_, fun h => absurd h (by omega)⟩
    have dropA : ∀ out' wq', Own E4 23 w.heap.size wq' out' (acc ++ opt o x) → Below w.heap.size w wq' → acc ++ opt o x ++ jn o c t us bs = jn o c t xs ys →
        F62_j2 sa sb (fun s' w' => (∃ us bs acc, Rd E4 w s'.1 us ∧ Rd E4 w s'.2.1 bs ∧ Own E4 23 w.heap.size w' s'.2.2 acc ∧ acc ++ jn o c t us bs = jn o c t xs ys ∧ acc.length + us.length + bs.length ≤ xs.length + ys.length ∧ Below w.heap.size w w') ∧ s'.1.n + s'.2.1.n < sa.n + sb.n) out' wq' := by
      intro out' wq' ho' hb' he'
      unfold F62_j2
      obtain ⟨t', h1, h2⟩ := hra.tail
      have h3 := h2.1
      refine ⟨t', h1 wq', ⟨us, bs, acc ++ opt o x, h2, hrb, ho', he', ?_, hb'⟩, by (try dsimp only); omega⟩
      have : (opt o x).length ≤ 1 := by cases o <;> simp [opt]
      simp only [List.length_append]; omega
    cases bs with
    | nil =>
      simp only [List.length_nil] at hnb
      refine ⟨fun _ => ?_, fun h => absurd (by omega) h⟩
      rintro _ ⟨m1, rfl⟩
      refine push (w := w) (J := fun s' w' => F62_j2 sa sb _ s' w') (below_draw hbr m1) (ho.below (below_draw (Below.refl _ _) m1)) hra (by omega) (fun out' wq' ho' hb' => dropA out' wq' ho' hb' ?_)
      rw [← he, jn, List.append_assoc]
    | cons y bs =>
      simp only [List.length_cons] at hnb hlen
      refine ⟨fun h => absurd h (by omega), fun _ => ⟨fun _ => ?_, fun h => absurd (by omega) h⟩⟩
      obtain ⟨a1, ha1, hc1⟩ := (hra.below hbr).at 0 (by simp)
      obtain ⟨a2, ha2, hc2⟩ := (hrb.below hbr).at 0 (by simp)
      refine ⟨by omega, by omega, a1, ha1, x, hc1, by omega, by omega, a2, ha2, y, hc2, ?_⟩
      rintro _ ⟨m1, rfl⟩
      have ho1 := ho.below (below_draw (Below.refl wr.heap.size wr) m1)
      refine ⟨fun hxy => ?_, fun hxy => ⟨fun h => absurd h (by omega), fun _ => ?_⟩⟩
      · refine push (w := w) (J := fun s' w' => F62_j2 sa sb _ s' w') (below_draw hbr m1) ho1 hra (by omega) (fun out' wq' ho' hb' => dropA out' wq' ho' hb' ?_)
        rw [← he, jn, if_pos hxy, List.append_assoc]
      · refine ⟨by omega, by omega, a2, ha2, y, hc2, by omega, by omega, a1, ha1, x, hc1, ?_⟩
        rintro _ ⟨m2, rfl⟩
        have ho2 := ho.below (below_draw (below_draw (Below.refl wr.heap.size wr) m1) m2)
        refine ⟨fun hyx => ?_, fun hyx => ?_⟩
        · refine push (w := w) (J := fun s' w' => F62_j5 sa sb _ s' w') (below_draw (below_draw hbr m1) m2) ho2 hrb (by omega) (fun out' wq' ho' hb' => ?_)
          unfold F62_j5
          obtain ⟨t', h1, h2⟩ := hrb.tail
          have h3 := h2.1
          refine ⟨t', h1 wq', ⟨x :: us, bs, acc ++ opt t y, hra, h2, ho', ?_, ?_, hb'⟩, by (try dsimp only); omega⟩
          · rw [← he, jn, if_neg hxy, if_pos hyx, List.append_assoc]
          · have : (opt t y).length ≤ 1 := by cases t <;> simp [opt]
            simp only [List.length_append, List.length_cons]; omega
        · refine push (w := w) (J := fun s' w' => F62_j6 sa sb _ s' w') (below_draw (below_draw hbr m1) m2) ho2 hra (by omega) (fun out' wq' ho' hb' => ?_)
          unfold F62_j6
          obtain ⟨t1, h1, h2⟩ := hra.tail
          obtain ⟨t2, h4, h5⟩ := hrb.tail
          have h3 := h2.1
          have h6 := h5.1
          refine ⟨t1, fun m => h1 _, t2, fun m => h4 _, ?_⟩
          rintro _ ⟨m3, rfl⟩
          refine ⟨⟨us, bs, acc ++ opt c x, h2, h5, ho'.below (below_draw (Below.refl _ _) m3), ?_, ?_, below_draw hb' m3⟩, by (try dsimp only); omega⟩
          · rw [← he, jn, if_neg hxy, if_neg hyx, List.append_assoc]
          · have : (opt c x).length ≤ 1 := by cases c <;> simp [opt]
            simp only [List.length_append]; omega
theorem C16 (ha : Rd E4 w a xs) (hb : Rd E4 w b ys) (hl : xs.length + ys.length ≤ 1000000000000) : Calls Try.prog 16 #[.slice a.a a.n a.c, .slice b.a b.n b.c] w (fun e w1 => ∃ (r0 : Sl), e = .returned (.slice r0.a r0.n r0.c : Value) ∧ (Own E4 23 w.heap.size w1 r0 (joi false true false xs ys) ∧ Below w.heap.size w w1)) := by
  refine F16_sound a b (fun r0 w1 => Own E4 23 w.heap.size w1 r0 (joi false true false xs ys) ∧ Below w.heap.size w w1) w ?_
  unfold F16
  exact C62 ha hb _ _ _ hl
theorem C17 (ha : Rd E4 w a xs) (hb : Rd E4 w b ys) (hl : xs.length + ys.length ≤ 1000000000000) : Calls Try.prog 17 #[.slice a.a a.n a.c, .slice b.a b.n b.c] w (fun e w1 => ∃ (r0 : Sl), e = .returned (.slice r0.a r0.n r0.c : Value) ∧ (Own E4 23 w.heap.size w1 r0 (joi true true true xs ys) ∧ Below w.heap.size w w1)) := by
  refine F17_sound a b (fun r0 w1 => Own E4 23 w.heap.size w1 r0 (joi true true true xs ys) ∧ Below w.heap.size w w1) w ?_
  unfold F17
  exact C62 ha hb _ _ _ hl
theorem C18 (ha : Rd E4 w a xs) (hb : Rd E4 w b ys) (hl : xs.length + ys.length ≤ 1000000000000) : Calls Try.prog 18 #[.slice a.a a.n a.c, .slice b.a b.n b.c] w (fun e w1 => ∃ (r0 : Sl), e = .returned (.slice r0.a r0.n r0.c : Value) ∧ (Own E4 23 w.heap.size w1 r0 (joi true false false xs ys) ∧ Below w.heap.size w w1)) := by
  refine F18_sound a b (fun r0 w1 => Own E4 23 w.heap.size w1 r0 (joi true false false xs ys) ∧ Below w.heap.size w w1) w ?_
  unfold F18
  exact C62 ha hb _ _ _ hl
end
end Go.Proofs.Ytjgijifankaglaa
