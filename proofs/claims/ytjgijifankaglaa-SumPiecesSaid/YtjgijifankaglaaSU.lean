/- The law's still: bytes that were lent are as they were. -/
import Derived.Test.YtjgijifankaglaaSB
namespace Go.Proofs.Ytjgijifankaglaa
open Go Go.RowKit Go.Proofs.Ytjgijifankaglaa.SX
set_option linter.unusedVariables false

theorem C42 {w : World} {l b : Sl} {bs : List Int} {m : Nat} (hl : Rd B8 w l (bs ++ List.replicate m 201)) (hb : Rd B8 w b bs) : Calls Try.prog 42 #[.slice l.a l.n l.c, .slice b.a b.n b.c] w (fun e w1 => ∃ (r0 : Bool), e = .returned (.bool r0) ∧ (r0 = true ∧ Below w.heap.size w w1)) := by
  refine F42_sound l b (fun r0 w1 => r0 = true ∧ Below w.heap.size w w1) w ?_
  unfold F42
  have hn := hl.1
  have hbn := hb.1
  have hm : l.n ≤ 9223372036854775807 := Nat.le_trans hl.2.1 (by have := hl.2.2.1; simpa [maxLen] using this)
  rw [List.length_append, List.length_replicate] at hn
  refine ⟨fun st wr => ∃ i : Nat, st = (i : Int) ∧ i ≤ l.n ∧ Below w.heap.size w wr, fun st _ => (l.n - st).toNat, ⟨0, rfl, by omega, Below.refl _ _⟩, ?_⟩
  rintro _ wr ⟨i, rfl, hi, hw⟩
  unfold F42_l1
  refine ⟨fun hlt => ?_, fun hge => ⟨rfl, hw⟩⟩
  have hil : i < (bs ++ List.replicate m (201 : Int)).length := by rw [List.length_append, List.length_replicate]; omega
  obtain ⟨a, ha, hc⟩ := (hl.below hw).at i hil
  refine ⟨fun h1 => ?_, fun h1 => ⟨fun h2 => ?_, fun h2 => absurd (by omega) h2⟩⟩
  · have hib : i < bs.length := by omega
    obtain ⟨a2, ha2, hc2⟩ := (hb.below hw).at i hib
    rw [List.getElem_append_left hib] at hc
    refine ⟨by omega, hlt, a, ha, _, hc, by omega, h1, a2, ha2, _, hc2, fun hne => absurd rfl hne, fun _ => ⟨fun h3 => absurd h3 (by omega), fun _ => ?_⟩⟩
    rintro _ ⟨k, rfl⟩
    rw [w_i64 (by omega) (by omega)]
    exact ⟨⟨i + 1, by omega, by omega, below_draw hw k⟩, by (try dsimp only); omega⟩
  · have hv : (bs ++ List.replicate m (201 : Int))[i] = 201 := by
      rw [List.getElem_append_right (by omega), List.getElem_replicate]
    rw [hv] at hc
    refine ⟨by omega, hlt, a, ha, _, hc, ?_⟩
    rintro _ ⟨k, rfl⟩
    refine ⟨fun hne => absurd rfl hne, fun _ => ?_⟩
    rw [w_i64 (by omega) (by omega)]
    exact ⟨⟨i + 1, by omega, by omega, below_draw hw k⟩, by (try dsimp only); omega⟩
end Go.Proofs.Ytjgijifankaglaa
