/- What the helpers of the law texts of package num return: lent, still, gets. -/
import Derived.Test.YthhcaaellhdkiaaNW
import Derived.Test.YthhcaaellhdkiaaMF
namespace Go.Proofs.Ythhcaaellhdkiaa
open Go Go.RowKit Go.Proofs.Ythhcaaellhdkiaa.SX
set_option linter.unusedVariables false

theorem below_drewN {B : Nat} {w w' : World} (h : Below B w w') (m : Nat) : Below B w (w'.drewN m) := ⟨h.os, h.tape, h.output, h.size, h.block⟩

theorem C13 {s : Sl} {xs : List Int} {w : World} (hr : Rd B8 w s xs) (hl : xs.length + 8 ≤ 140737488355328) :
    Calls Try.prog 13 #[.slice s.a s.n s.c] w (fun e w1 => ∃ (r0 : Sl), e = .returned (.slice r0.a r0.n r0.c : Value) ∧ (Own B8 5 w.heap.size w1 r0 (xs ++ List.replicate 8 201) ∧ Below w.heap.size w w1)) := by
  refine F13_sound s (fun r0 w1 => Own B8 5 w.heap.size w1 r0 (xs ++ List.replicate 8 201) ∧ Below w.heap.size w w1) w ?_
  unfold F13
  have hn := hr.len
  rw [w_i64 (by omega) (by omega)]
  obtain ⟨h1, h2, h3⟩ := mk_own (w := w) ty22 (enc := B8) (x := 0) rfl ((s.n : Int) + 8) ((s.n : Int) + 8) (s.n + 8) (s.n + 8) rfl rfl (by omega) (by omega) (by simp only [maxLen]; omega)
  refine ⟨⟨some ⟨w.heap.size, 0, none⟩, s.n + 8, s.n + 8⟩, _, h1, ?_⟩
  obtain ⟨k, w2, h4, h5, h6, h7⟩ := cp_own (ty := 3) ty22 b8one h2 (hr.below h3)
  refine ⟨k, w2, h4, ?_⟩
  have hB := h3.grown h7 (by simp) (fun k hk => (h2.blk_ge k hk).1)
  refine ⟨fun i wr => ∃ (k : Nat) (ys : List Int), i = (k : Int) ∧ s.n ≤ k ∧ k ≤ s.n + 8 ∧ Own B8 5 w.heap.size wr ⟨some ⟨w.heap.size, 0, none⟩, s.n + 8, s.n + 8⟩ ys ∧ Below w.heap.size w wr ∧ ys.length = s.n + 8 ∧ (∀ j, j < k → ys[j]? = (xs ++ List.replicate 8 201)[j]?), fun i _ => s.n + 8 - i.toNat,
    ⟨s.n, _, rfl, by omega, by omega, h6, hB, by simp; omega, ?_⟩, ?_⟩
  · intro j hj
    rw [List.length_replicate, List.take_of_length_le (by omega), List.getElem?_append_left (by omega), List.getElem?_append_left (by omega)]
  · rintro _ wr ⟨k, ys, rfl, hks, hk, ho, hb, hy, he⟩
    unfold F13_l1
    refine ⟨fun hlt => ?_, fun hge => ?_⟩
    · have hlt' : k < s.n + 8 := by simp only at hlt; omega
      obtain ⟨a, ha, hab, hc, ho2, hg⟩ := ho.set k (by omega) 201
      refine ⟨by omega, hlt, a, ha, hc, ?_⟩
      rintro _ rfl
      rw [w_i64 (by omega) (by omega)]
      refine ⟨⟨k + 1, ys.set k 201, by omega, by omega, by omega, ho2, ?_, by simp [hy], ?_⟩, by show s.n + 8 - ((k : Int) + 1).toNat < s.n + 8 - ((k : Int)).toNat; omega⟩
      · exact hb.grown hg hb.size (fun k hk => (ho.blk_ge k hk).1)
      · intro j hj
        rw [List.getElem?_set]
        by_cases hjk : k = j
        · subst hjk
          rw [if_pos rfl, if_pos (by omega)]
          rw [List.getElem?_append_right (by omega), List.getElem?_replicate, if_pos (by omega)]
        · rw [if_neg hjk]; exact he j (by omega)
    · have hk' : k = s.n + 8 := by simp only at hge; omega
      have : ys = xs ++ List.replicate 8 201 := by
        apply List.ext_getElem?
        intro j
        by_cases hj : j < k
        · exact he j hj
        · rw [List.getElem?_eq_none (by omega), List.getElem?_eq_none (by simp; omega)]
      rw [this] at ho
      exact ⟨ho, hb⟩

/-- bytes that were lent: the same bytes, and behind them spare room -/
theorem C20 {b s : Sl} {xs : List Int} {w : World} (hb : Rd B8 w b (xs ++ List.replicate 8 201)) (hs : Rd B8 w s xs) (hl : xs.length + 8 ≤ 140737488355328) :
    Calls Try.prog 20 #[.slice b.a b.n b.c, .slice s.a s.n s.c] w (fun e w1 => ∃ (r0 : Bool), e = .returned (.bool r0 : Value) ∧ (r0 = true ∧ Below w.heap.size w w1)) := by
  refine F20_sound b s (fun r0 w1 => r0 = true ∧ Below w.heap.size w w1) w ?_
  unfold F20
  have hbl := hb.len
  have hsl := hs.len
  simp at hbl
  refine ⟨fun i wr => ∃ k : Nat, i = (k : Int) ∧ k ≤ b.n ∧ Below w.heap.size w wr, fun i _ => b.n - i.toNat, ⟨0, rfl, by omega, Below.refl _ _⟩, ?_⟩
  rintro _ wr ⟨k, rfl, hk, hB⟩
  unfold F20_l1
  have Hb := hb.below hB
  have Hs := hs.below hB
  have hnext : ∀ w', Below w.heap.size w w' → k < b.n → (∃ k' : Nat, IntKind.i64.wrap ((k : Int) + 1) = (k' : Int) ∧ k' ≤ b.n ∧ Below w.heap.size w w') ∧ b.n - (IntKind.i64.wrap ((k : Int) + 1)).toNat < b.n - ((k : Int)).toNat := by
    intro w' hw hlt
    rw [w_i64 (by omega) (by omega)]
    exact ⟨⟨k + 1, by omega, by omega, hw⟩, by omega⟩
  have hcb : k < b.n → ∃ a, b.a = some a ∧ ∃ v, wr.cell? (a.add k) = some (B8 v) ∧ (∀ h : k < s.n, v = xs[k]'(by omega)) ∧ (¬ k < s.n → v = 201) := by
    intro hlt
    obtain ⟨a, ha, hc⟩ := Hb.at k (by simp; omega)
    refine ⟨a, ha, _, hc, fun h => ?_, fun h => ?_⟩
    · rw [List.getElem_append_left (by omega)]
    · rw [List.getElem_append_right (by omega), List.getElem_replicate]
  refine ⟨fun hlt => ?_, fun hge => ⟨rfl, hB⟩⟩
  obtain ⟨a, ha, v, hv, hv1, hv2⟩ := hcb (by omega)
  refine ⟨fun hs1 => ?_, fun hs1 => ⟨fun hs2 => ?_, fun hs2 => by omega⟩⟩
  · obtain ⟨a', ha', hc'⟩ := Hs.at k (by omega)
    refine ⟨by omega, by omega, a, ha, v, hv, by omega, by omega, a', ha', _, hc', fun hne => absurd (hv1 (by omega)) hne, fun _ => ⟨fun h => by omega, fun _ => ?_⟩⟩
    rintro _ ⟨m, rfl⟩
    exact hnext _ (below_drewN hB m) (by omega)
  · refine ⟨by omega, by omega, a, ha, v, hv, ?_⟩
    rintro _ ⟨m, rfl⟩
    exact ⟨fun hne => absurd (hv2 (by omega)) hne, fun _ => hnext _ (below_drewN hB m) (by omega)⟩

theorem C23 {b : Sl} {xs : List Int} {most : Int} {w : World} (hr : Rd B8 w b xs) (hb : bys xs) (hl : xs.length ≤ 140737488355328) (hm : most ≤ 9223372036854775807) :
    Calls Try.prog 23 #[.slice b.a b.n b.c, .int .i64 most] w (fun e w1 => ∃ (r0 : Sl), ∃ (r1 : Bool), e = .returned (.tuple #[.slice r0.a r0.n r0.c, .bool r1]) ∧ (Own B8 5 w.heap.size w1 r0 (byt xs most).1 ∧ r1 = true ∧ Below w.heap.size w w1)) := by
  refine F23_sound b most (fun r0 r1 w1 => Own B8 5 w.heap.size w1 r0 (byt xs most).1 ∧ r1 = true ∧ Below w.heap.size w w1) w ?_
  unfold F23
  refine (C24 hr hb).mono ?_
  rintro _ w1 ⟨_, _, rfl, rfl, rfl, rfl⟩
  refine ⟨_, _, rfl, ?_⟩
  refine (C54 hr hb).mono ?_
  rintro _ w1 ⟨_, _, rfl, rfl, rfl, rfl⟩
  refine ⟨_, _, rfl, ?_⟩
  refine (C25 hr hb).mono ?_
  rintro _ w1 ⟨_, _, rfl, rfl, rfl, rfl⟩
  refine ⟨_, _, rfl, ?_⟩
  refine (C55 hr hb).mono ?_
  rintro _ w1 ⟨_, _, rfl, rfl, rfl, rfl⟩
  refine ⟨_, _, rfl, ?_⟩
  refine (C26 hr hb hl hm).mono ?_
  rintro _ w2 ⟨s1, _, rfl, o1, rfl, b1⟩
  refine ⟨_, _, rfl, ?_⟩
  refine (C56 (hr.below b1) hb hl hm).mono ?_
  rintro _ w3 ⟨s2, _, rfl, o2, rfl, b2⟩
  have O1 := o1.below b2
  refine ⟨_, _, rfl, fun _ => ⟨fun _ => ⟨fun _ => ⟨fun _ => ⟨_, rd_str O1.rd, _, rd_str o2.rd, fun _ => ?_, fun h => absurd rfl h⟩, fun h => absurd rfl h⟩, fun h => absurd rfl h⟩, fun h => absurd rfl h⟩, fun h => absurd rfl h⟩
  unfold F23_j1
  exact ⟨O1, by simp, b1.trans (b2.mono b1.size)⟩
end Go.Proofs.Ythhcaaellhdkiaa
