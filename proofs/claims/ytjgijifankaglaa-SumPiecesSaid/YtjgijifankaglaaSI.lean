/- sum.above: is a number's power above a prime times a power of two? -/
import Derived.Test.YtjgijifankaglaaSH
namespace Go.Proofs.Ytjgijifankaglaa
open Go Go.RowKit Go.Proofs.Ytjgijifankaglaa.SX
set_option linter.unusedVariables false

def abv (x p deg : Nat) : Bool := if deg = 2 then decide (p * 18446744073709551616 < x * x) else decide (p * 79228162514264337593543950336 < x * x * x)
theorem C109 (x p deg : Nat) (w : World) (hx : x ≤ 137438953472) (hp : p < 4294967296) (hd : deg = 2 ∨ deg = 3) : Calls Try.prog 109 #[.int .u64 (x : Int), .int .u64 (p : Int), .int .i64 (deg : Int)] w (fun e w1 => ∃ (r0 : Bool), e = .returned (.bool r0) ∧ (r0 = abv x p deg ∧ Below w.heap.size w w1)) := by
  refine F109_sound x p deg (fun r0 w1 => r0 = abv x p deg ∧ Below w.heap.size w w1) w ?_
  unfold F109
  have hxx : x * x ≤ 137438953472 * 137438953472 := Nat.mul_le_mul hx hx
  refine (C116 x x w (by omega) (by omega)).mono ?_
  rintro _ w6 ⟨_, _, rfl, rfl, rfl, hw⟩
  rw [hw]; clear hw
  refine ⟨_, _, rfl, fun h2 => ?_, fun h2 => ?_⟩
  · have hd2 : deg = 2 := by omega
    unfold F109_j1 abv
    rw [if_pos hd2]
    generalize x * x = X at *
    refine ⟨fun h => ⟨?_, Below.refl _ _⟩, fun h => ⟨fun h1 => ⟨?_, Below.refl _ _⟩, fun h1 => ⟨?_, Below.refl _ _⟩⟩⟩
    · symm; exact decide_eq_true (by omega)
    · rw [decide_eq_decide]; omega
    · symm; exact decide_eq_false (by omega)
  · have hd3 : deg = 3 := by omega
    have hab : abv x p deg = decide (p * 79228162514264337593543950336 < x * x * x) := by unfold abv; rw [if_neg (by omega)]
    rw [hab]
    have hcube : x * x * x = (x * x / 18446744073709551616 * x) * 18446744073709551616 + x * x % 18446744073709551616 * x := by
      have : x * x = x * x / 18446744073709551616 * 18446744073709551616 + x * x % 18446744073709551616 := by omega
      conv => lhs; rw [this]
      rw [Nat.add_mul, Nat.mul_right_comm]
    rw [hcube]
    have hhi : x * x / 18446744073709551616 ≤ 1024 := by omega
    have hlo : x * x % 18446744073709551616 ≤ 18446744073709551615 := by omega
    generalize x * x / 18446744073709551616 = H at *
    generalize x * x % 18446744073709551616 = L at *
    have hHx : H * x ≤ 1024 * 137438953472 := Nat.mul_le_mul hhi hx
    have hLx : L * x ≤ 18446744073709551615 * 137438953472 := Nat.mul_le_mul hlo hx
    refine (C116 L x w (by omega) (by omega)).mono ?_
    rintro _ w11 ⟨_, _, rfl, rfl, rfl, hw⟩
    rw [hw]; clear hw
    refine ⟨_, _, rfl, (C116 H x w (by omega) (by omega)).mono ?_⟩
    rintro _ w14 ⟨_, _, rfl, rfl, rfl, hw⟩
    rw [hw]; clear hw
    refine ⟨_, _, rfl, ?_⟩
    generalize L * x = U at *
    generalize H * x = V at *
    intro w15 e
    have b15 : Below w.heap.size w w15 := by rw [e]; exact below_row _ _
    have h15 : w15.heap[w.heap.size]? = some (.cells #[.int .u64 0, .int .u64 0, .int .u64 0] 170 (0, 0)) := by rw [e]; exact heap_alloc_new w _
    clear e
    refine ⟨row_hass h15 3 0 (by decide), ?_⟩
    intro w16 e
    have hsets := row_sets [.int .u64 (Int.fdiv (p : Int) (2 ^ 32)), .int .u64 (IntKind.u64.wrap ((p : Int) * 2 ^ 32)), .int .u64 0] 0 h15
    have q := gr_sets (g := w.heap.size) [.int .u64 (Int.fdiv (p : Int) (2 ^ 32)), .int .u64 (IntKind.u64.wrap ((p : Int) * 2 ^ 32)), .int .u64 0] 0 w15
    rw [← e] at hsets q
    clear e
    have B := b15.trans (q.toBelow b15.size (fun k hk => by (try dsimp only at hk); omega))
    have e0 : Int.fdiv (p : Int) (2 ^ 32) = ((0 : Nat) : Int) := by rw [fd32]; omega
    have e1 : IntKind.u64.wrap ((p : Int) * 2 ^ 32) = ((p * 4294967296 : Nat) : Int) := by
      rw [show (p : Int) * 2 ^ 32 = ((p * 4294967296 : Nat) : Int) by omega, w_u64 (by omega) (by omega)]
    rw [e0, e1] at hsets
    have hrow : w16.heap[w.heap.size]? = some (.cells #[.int .u64 ((0 : Nat) : Int), .int .u64 ((p * 4294967296 : Nat) : Int), .int .u64 0] 170 (0, 0)) := hsets
    clear hsets
    have hV0 : V / 18446744073709551616 = 0 := by omega
    have hV1 : V % 18446744073709551616 = V := by omega
    rw [hV0, hV1]
    have hU1 : U / 18446744073709551616 ≤ 137438953472 := by omega
    refine ⟨fun st wr => wr = w16 ∧ ∃ i : Nat, st = (i : Int) ∧ i ≤ 3 ∧ (1 ≤ i → (U / 18446744073709551616 + V) / 18446744073709551616 = 0) ∧ (2 ≤ i → (U / 18446744073709551616 + V) % 18446744073709551616 = p * 4294967296) ∧ (3 ≤ i → U % 18446744073709551616 = 0), fun st _ => (3 - st).toNat, ⟨rfl, 0, rfl, by omega, fun h => by omega, fun h => by omega, fun h => by omega⟩, ?_⟩
    rintro _ _ ⟨rfl, i, rfl, hi, g0, g1, g2⟩
    unfold F109_l2
    simp only [Int.toNat_natCast, Int.toNat_zero, Nat.add_zero]
    have eT : IntKind.u64.wrap (((0 : Nat) : Int) + Int.ofNat ((U / 18446744073709551616 + V) / 18446744073709551616)) = (((U / 18446744073709551616 + V) / 18446744073709551616 : Nat) : Int) := by
      rw [show ((0 : Nat) : Int) + Int.ofNat ((U / 18446744073709551616 + V) / 18446744073709551616) = (((U / 18446744073709551616 + V) / 18446744073709551616 : Nat) : Int) by simp, w_u64 (by omega) (by omega)]
    rw [eT]
    refine ⟨fun hlt => ?_, fun hge => ⟨?_, B⟩⟩
    · have hi3 : i < 3 := by omega
      rw [add_lit, row_get hrow]
      match i, hi3 with
      | 0, _ =>
        refine ⟨(((U / 18446744073709551616 + V) / 18446744073709551616 : Nat) : Int), by kernel_rfl, by omega, by omega, _, rfl, fun hne => ⟨by omega, by omega, _, rfl, ?_, B⟩, fun he => ?_⟩
        · rw [decide_eq_decide]; omega
        · exact ⟨⟨trivial, 1, by rw [w_i64 (by omega) (by omega)]; rfl, by omega, fun _ => by omega, fun h => by omega, fun h => by omega⟩, by (try dsimp only); rw [w_i64 (by omega) (by omega)]; omega⟩
      | 1, _ =>
        have g0 := g0 (by omega)
        refine ⟨(((U / 18446744073709551616 + V) % 18446744073709551616 : Nat) : Int), by kernel_rfl, by omega, by omega, _, rfl, fun hne => ⟨by omega, by omega, _, rfl, ?_, B⟩, fun he => ?_⟩
        · rw [decide_eq_decide]; omega
        · exact ⟨⟨trivial, 2, by rw [w_i64 (by omega) (by omega)]; rfl, by omega, fun _ => g0, fun _ => by omega, fun h => by omega⟩, by (try dsimp only); rw [w_i64 (by omega) (by omega)]; omega⟩
      | 2, _ =>
        have g0 := g0 (by omega)
        have g1 := g1 (by omega)
        refine ⟨((U % 18446744073709551616 : Nat) : Int), by kernel_rfl, by omega, by omega, _, rfl, fun hne => ⟨by omega, by omega, _, rfl, ?_, B⟩, fun he => ?_⟩
        · rw [decide_eq_decide]; omega
        · exact ⟨⟨trivial, 3, by rw [w_i64 (by omega) (by omega)]; rfl, by omega, fun _ => g0, fun _ => g1, fun _ => by omega⟩, by (try dsimp only); rw [w_i64 (by omega) (by omega)]; omega⟩
    · have hi3 : i = 3 := by omega
      have g0 := g0 (by omega)
      have g1 := g1 (by omega)
      have g2 := g2 (by omega)
      symm; exact decide_eq_false (by omega)
end Go.Proofs.Ytjgijifankaglaa
