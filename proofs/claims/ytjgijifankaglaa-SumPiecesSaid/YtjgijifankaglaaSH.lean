/- Mul64, and the numbers of SHA-256. -/
import Derived.Test.YtjgijifankaglaaSG
import Derived.Test.YtjgijifankaglaaGSd
namespace Go.Proofs.Ytjgijifankaglaa
open Go Go.RowKit Go.Proofs.Ytjgijifankaglaa.SX
set_option linter.unusedVariables false

theorem fd32 (m : Nat) : Int.fdiv (m : Int) (2 ^ 32) = ((m / 4294967296 : Nat) : Int) := by
  rw [fd _ (by omega)]; rfl
theorem mask32 {m : Nat} (hm : m < 18446744073709551616) : ibits .and .u64 (m : Int) 4294967295 = ((m % 4294967296 : Nat) : Int) := by
  show IntKind.u64.wrap ((BitVec.ofInt 64 (m : Int) &&& BitVec.ofInt 64 ((4294967295 : Nat) : Int)).toNat : Int) = _
  rw [BitVec.ofInt_natCast, BitVec.ofInt_natCast, BitVec.toNat_and, BitVec.toNat_ofNat, BitVec.toNat_ofNat, Nat.mod_eq_of_lt hm, Nat.mod_eq_of_lt (by omega : 4294967295 < 2 ^ 64)]
  have : m &&& 4294967295 = m % 4294967296 := Nat.and_two_pow_sub_one_eq_mod m 32
  rw [this, w_u64 (by omega) (by omega)]
theorem mul_parts (a b c d M : Nat) : (a * M + b) * (c * M + d) = a * c * (M * M) + (a * d + b * c) * M + b * d := by
  simp only [Nat.add_mul, Nat.mul_add]
  rw [Nat.mul_mul_mul_comm a M c M, Nat.mul_right_comm a M d, ← Nat.mul_assoc b c M]
  omega
theorem C116 (x y : Nat) (w : World) (hx : x < 18446744073709551616) (hy : y < 18446744073709551616) : Calls Try.prog 116 #[.int .u64 (x : Int), .int .u64 (y : Int)] w (fun e w1 => ∃ (r0 : Int), ∃ (r1 : Int), e = .returned (.tuple #[.int .u64 r0, .int .u64 r1]) ∧ (r0 = ((x * y / 18446744073709551616 : Nat) : Int) ∧ r1 = ((x * y % 18446744073709551616 : Nat) : Int) ∧ w1 = w)) := by
  refine F116_sound x y (fun r0 r1 w1 => r0 = ((x * y / 18446744073709551616 : Nat) : Int) ∧ r1 = ((x * y % 18446744073709551616 : Nat) : Int) ∧ w1 = w) w ?_
  unfold F116
  have hlo : IntKind.u64.wrap ((x : Int) * (y : Int)) = ((x * y % 18446744073709551616 : Nat) : Int) := by
    rw [wm_u64, ← Int.natCast_mul]; omega
  refine ⟨?_, hlo, rfl⟩
  rw [fd32, fd32, mask32 hx, mask32 hy]
  have hxe : x = x / 4294967296 * 4294967296 + x % 4294967296 := by omega
  have hye : y = y / 4294967296 * 4294967296 + y % 4294967296 := by omega
  have hprod : x * y = (x / 4294967296) * (y / 4294967296) * 18446744073709551616 + ((x / 4294967296) * (y % 4294967296) + (x % 4294967296) * (y / 4294967296)) * 4294967296 + (x % 4294967296) * (y % 4294967296) := by
    have := mul_parts (x / 4294967296) (x % 4294967296) (y / 4294967296) (y % 4294967296) 4294967296
    rw [← hxe, ← hye] at this
    exact this
  rw [hprod]
  have ha : x / 4294967296 ≤ 4294967295 := by omega
  have hb : x % 4294967296 ≤ 4294967295 := by omega
  have hc : y / 4294967296 ≤ 4294967295 := by omega
  have hd : y % 4294967296 ≤ 4294967295 := by omega
  generalize x / 4294967296 = a at *
  generalize x % 4294967296 = b at *
  generalize y / 4294967296 = c at *
  generalize y % 4294967296 = d at *
  have hP := Nat.mul_le_mul ha hc
  have hQ := Nat.mul_le_mul ha hd
  have hR := Nat.mul_le_mul hb hc
  have hS := Nat.mul_le_mul hb hd
  simp only [← Int.natCast_mul]
  generalize a * c = P at *
  generalize a * d = Q at *
  generalize b * c = R at *
  generalize b * d = S at *
  clear hxe hye hprod hlo ha hb hc hd
  rw [w_u64 (n := (S : Int)) (by omega) (by omega), fd32, w_u64 (n := (Q : Int)) (by omega) (by omega)]
  rw [← Int.natCast_add Q (S / 4294967296), w_u64 (n := ((Q + S / 4294967296 : Nat) : Int)) (by omega) (by omega), fd32, mask32 (by omega), w_u64 (n := (P : Int)) (by omega) (by omega), w_u64 (n := (R : Int)) (by omega) (by omega)]
  rw [← Int.natCast_add ((Q + S / 4294967296) % 4294967296) R, w_u64 (n := (((Q + S / 4294967296) % 4294967296 + R : Nat) : Int)) (by omega) (by omega), fd32]
  rw [← Int.natCast_add P, w_u64 (n := ((P + (Q + S / 4294967296) / 4294967296 : Nat) : Int)) (by omega) (by omega)]
  rw [← Int.natCast_add, w_u64 (by omega) (by omega)]
  congr 1
  omega
end Go.Proofs.Ytjgijifankaglaa
