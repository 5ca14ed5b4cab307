/- Shifts, masks and sums of bits, as package bits writes them. -/
import Derived.Test.YthhcaaellhdkiaaBP
namespace Go.Proofs.Ythhcaaellhdkiaa
open Go Go.RowKit Go.Proofs.Ythhcaaellhdkiaa.SX
set_option linter.unusedVariables false

theorem mask_u8 {x k : Nat} (hx : x < 256) (hk : k ≤ 8) : ibits .and .u8 (x : Int) (IntKind.u8.wrap (ishl .u8 1 (k : Int) - 1)) = ((x % 2 ^ k : Nat) : Int) := by
  have h : ∀ k : Fin 9, IntKind.u8.wrap (ishl .u8 1 (k.val : Int) - 1) = ((2 ^ k.val - 1 : Nat) : Int) := by decide +kernel
  have := h ⟨k, by omega⟩
  simp only at this
  have hp : 2 ^ k ≤ 2 ^ 8 := Nat.pow_le_pow_right (by omega) hk
  rw [this, ib_and .u8 rfl (by simpa [IntKind.bits] using hx) (by simp only [IntKind.bits]; omega), Nat.and_two_pow_sub_one_eq_mod]
theorem shl_u8 {x k : Nat} (hk : k ≤ 8) (h : x * 2 ^ k < 256) : ishl .u8 (x : Int) (k : Int) = ((x * 2 ^ k : Nat) : Int) := by
  have hm : min ((k : Int)).toNat IntKind.u8.bits = k := by simp [IntKind.bits]; omega
  rw [ishl, hm, wm_u8]
  have e : (x : Int) * 2 ^ k = ((x * 2 ^ k : Nat) : Int) := by simp
  rw [e]; omega
theorem shl_u64 {x k : Nat} (hk : k ≤ 64) (h : x * 2 ^ k < 18446744073709551616) : ishl .u64 (x : Int) (k : Int) = ((x * 2 ^ k : Nat) : Int) := by
  have hm : min ((k : Int)).toNat IntKind.u64.bits = k := by simp [IntKind.bits]; omega
  rw [ishl, hm, wm_u64]
  have e : (x : Int) * 2 ^ k = ((x * 2 ^ k : Nat) : Int) := by simp
  rw [e]; omega
theorem or_u8 {a x k : Nat} (hk : k ≤ 8) (h : x * 2 ^ k < 256) (ha : a < 2 ^ k) : ibits .or .u8 (((x * 2 ^ k : Nat) : Int)) (a : Int) = ((x * 2 ^ k + a : Nat) : Int) := by
  have hp : 2 ^ k ≤ 2 ^ 8 := Nat.pow_le_pow_right (by omega) hk
  rw [ib_or .u8 rfl (by simpa [IntKind.bits] using h) (by simp only [IntKind.bits]; omega), Nat.or_comm, or_shift a x k ha, Nat.add_comm]
theorem or_u64 {a x k : Nat} (hk : k ≤ 64) (h : x * 2 ^ k < 18446744073709551616) (ha : a < 2 ^ k) : ibits .or .u64 (((x * 2 ^ k : Nat) : Int)) (a : Int) = ((x * 2 ^ k + a : Nat) : Int) := by
  have hp : 2 ^ k ≤ 2 ^ 64 := Nat.pow_le_pow_right (by omega) hk
  rw [ib_or .u64 rfl (by simpa [IntKind.bits] using h) (by simp only [IntKind.bits]; omega), Nat.or_comm, or_shift a x k ha, Nat.add_comm]
theorem shr_u8 {x k : Nat} (hk : k ≤ 8) : ishr .u8 (x : Int) (k : Int) = ((x / 2 ^ k : Nat) : Int) := by
  have hm : min ((k : Int)).toNat IntKind.u8.bits = k := by simp [IntKind.bits]; omega
  rw [ishr, hm, Int.fdiv_eq_ediv_of_nonneg _ (Int.pow_nonneg (by decide))]; simp
theorem shr_u64 {x k : Nat} (hk : k ≤ 64) : ishr .u64 (x : Int) (k : Int) = ((x / 2 ^ k : Nat) : Int) := by
  have hm : min ((k : Int)).toNat IntKind.u64.bits = k := by simp [IntKind.bits]; omega
  rw [ishr, hm, Int.fdiv_eq_ediv_of_nonneg _ (Int.pow_nonneg (by decide))]; simp
end Go.Proofs.Ythhcaaellhdkiaa
