/- The bits of some bytes. -/
import Derived.Test.YthhcaaellhdkiaaCB
namespace Go.Proofs.Ythhcaaellhdkiaa
open Go Go.RowKit Go.Proofs.Ythhcaaellhdkiaa.SX
set_option linter.unusedVariables false

/-- the bits of some bytes -/
def unp : List Int → List Bool
  | [] => []
  | x :: xs => bo x.toNat 8 ++ unp xs
theorem unp_len (xs : List Int) : (unp xs).length = 8 * xs.length := by
  induction xs with
  | nil => rfl
  | cons x xs ih => simp [unp, ih, bo_len]; omega
theorem unp_drop : ∀ (xs : List Int) (j : Nat) (h : j < xs.length), (unp xs).drop (8 * j) = bo xs[j].toNat 8 ++ unp (xs.drop (j + 1))
  | [], j, h => by simp at h
  | x :: xs, 0, h => by simp [unp]
  | x :: xs, j + 1, h => by
    simp only [unp]
    rw [List.drop_append, List.drop_eq_nil_of_le (by rw [bo_len]; omega), bo_len, List.nil_append, show 8 * (j + 1) - 8 = 8 * j by omega, unp_drop xs j (by simpa using h)]
    simp
theorem bo_mid (v q k : Nat) (h : q + k ≤ 8) : ((bo v 8).drop q).take k = bo (v / 2 ^ (8 - q - k)) k := by
  have h1 := bo_append v 8 q (by omega)
  have h2 := bo_append v (8 - q) k (by omega)
  rw [h1, List.drop_left' (bo_len _ _), h2, List.take_left' (bo_len _ _)]
/-- k bits within one byte -/
theorem unp_mid {xs : List Int} {at_ k : Nat} (h : at_ / 8 < xs.length) (hk : k ≤ 8 - at_ % 8) : ((unp xs).drop at_).take k = bo ((xs[at_ / 8]'h).toNat / 2 ^ (8 - at_ % 8 - k)) k := by
  have h1 := unp_drop xs (at_ / 8) h
  have e : (unp xs).drop at_ = ((unp xs).drop (8 * (at_ / 8))).drop (at_ % 8) := by
    rw [List.drop_drop]; congr 1; omega
  rw [e, h1, List.drop_append_of_le_length (by rw [bo_len]; omega), List.take_append_of_le_length (by rw [List.length_drop, bo_len]; omega), bo_mid _ _ _ (by omega)]
end Go.Proofs.Ythhcaaellhdkiaa
