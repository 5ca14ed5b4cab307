/- Numbers: wraps, shifts, bits, in the forms that the printed functions bear. -/
import Derived.Test.YtjgijifankaglaaSX
import Derived.IntWalk
namespace Go.Proofs.Ytjgijifankaglaa.SX
open Go Go.RowKit
set_option linter.unusedVariables false

theorem w_i64 {n : Int} (h1 : -9223372036854775808 ≤ n) (h2 : n ≤ 9223372036854775807) : IntKind.i64.wrap n = n := IntWalk.i64_in n ⟨h1, h2⟩
theorem w_u64 {n : Int} (h1 : 0 ≤ n) (h2 : n ≤ 18446744073709551615) : IntKind.u64.wrap n = n := IntWalk.u64_in n ⟨h1, h2⟩
theorem w_u8 {n : Int} (h1 : 0 ≤ n) (h2 : n ≤ 255) : IntKind.u8.wrap n = n := IntWalk.u8_in n ⟨h1, h2⟩
theorem w_u32 {n : Int} (h1 : 0 ≤ n) (h2 : n ≤ 4294967295) : IntKind.u32.wrap n = n := IntWalk.u32_in n ⟨h1, h2⟩
theorem wm_u64 (n : Int) : IntKind.u64.wrap n = n % 18446744073709551616 := by simp [IntKind.wrap, IntKind.bits, IntKind.signed]
theorem wm_u32 (n : Int) : IntKind.u32.wrap n = n % 4294967296 := by simp [IntKind.wrap, IntKind.bits, IntKind.signed]
theorem wm_u8 (n : Int) : IntKind.u8.wrap n = n % 256 := by simp [IntKind.wrap, IntKind.bits, IntKind.signed]
theorem wm_i64 (n : Int) : IntKind.i64.wrap n = (n + 9223372036854775808) % 18446744073709551616 - 9223372036854775808 := by rw [IntKind.wrap_i64]
theorem fd {n : Int} (m : Int) (h : 0 ≤ m) : Int.fdiv n m = n / m := Int.fdiv_eq_ediv_of_nonneg n h
theorem td {n m : Int} (h : 0 ≤ n) : Int.tdiv n m = n / m := Int.tdiv_eq_ediv_of_nonneg h
theorem tm {n m : Int} (h : 0 ≤ n) : Int.tmod n m = n % m := Int.tmod_eq_emod_of_nonneg h

theorem ofInt_nat (k : Nat) (a : Nat) (h : a < 2 ^ k) : (BitVec.ofInt k (a : Int)).toNat = a := by
  rw [BitVec.ofInt_natCast, BitVec.toNat_ofNat, Nat.mod_eq_of_lt h]
theorem natmod {x k : Nat} (h : x < 2 ^ k) : ((x : Nat) : Int) % 2 ^ k = x :=
  Int.emod_eq_of_lt (by omega) (by exact_mod_cast h)
theorem ib_or (k : IntKind) (hk : k.signed = false) {a b : Nat} (ha : a < 2 ^ k.bits) (hb : b < 2 ^ k.bits) : ibits .or k a b = ((a ||| b : Nat) : Int) := by
  have hlt : a ||| b < 2 ^ k.bits := Nat.or_lt_two_pow ha hb
  simp only [ibits, BitVec.toNat_or, ofInt_nat _ _ ha, ofInt_nat _ _ hb, IntKind.wrap, hk, Bool.false_and]
  simp only [Bool.false_eq_true, if_false]
  exact natmod hlt
theorem ib_and (k : IntKind) (hk : k.signed = false) {a b : Nat} (ha : a < 2 ^ k.bits) (hb : b < 2 ^ k.bits) : ibits .and k a b = ((a &&& b : Nat) : Int) := by
  have hlt : a &&& b < 2 ^ k.bits := Nat.and_lt_two_pow a hb
  simp only [ibits, BitVec.toNat_and, ofInt_nat _ _ ha, ofInt_nat _ _ hb, IntKind.wrap, hk, Bool.false_and]
  simp only [Bool.false_eq_true, if_false]
  exact natmod hlt
theorem ib_xor (k : IntKind) (hk : k.signed = false) {a b : Nat} (ha : a < 2 ^ k.bits) (hb : b < 2 ^ k.bits) : ibits .xor k a b = ((a ^^^ b : Nat) : Int) := by
  have hlt : a ^^^ b < 2 ^ k.bits := Nat.xor_lt_two_pow ha hb
  simp only [ibits, BitVec.toNat_xor, ofInt_nat _ _ ha, ofInt_nat _ _ hb, IntKind.wrap, hk, Bool.false_and]
  simp only [Bool.false_eq_true, if_false]
  exact natmod hlt

theorem nat_of {n : Int} (h : 0 ≤ n) : ∃ m : Nat, n = m := Int.eq_ofNat_of_zero_le h
theorem or128 {n : Int} (h0 : 0 ≤ n) (h1 : n ≤ 255) : ibits .or .u8 n 128 = n % 128 + 128 := by
  obtain ⟨m, rfl⟩ := nat_of h0
  have := ib_or .u8 rfl (a := m) (b := 128) (by simp [IntKind.bits]; omega) (by simp [IntKind.bits])
  rw [show ((128 : Int)) = ((128 : Nat) : Int) from rfl, this]
  have h : ∀ a : Fin 256, a.val ||| 128 = a.val % 128 + 128 := by decide +kernel
  have := h ⟨m, by omega⟩
  simp only at this
  rw [this]; rfl
theorem and127 {n : Int} (h0 : 0 ≤ n) (h1 : n ≤ 255) : ibits .and .u8 n 127 = n % 128 := by
  obtain ⟨m, rfl⟩ := nat_of h0
  have := ib_and .u8 rfl (a := m) (b := 127) (by simp [IntKind.bits]; omega) (by simp [IntKind.bits])
  rw [show ((127 : Int)) = ((127 : Nat) : Int) from rfl, this]
  have h : ∀ a : Fin 256, a.val &&& 127 = a.val % 128 := by decide +kernel
  have := h ⟨m, by omega⟩
  simp only at this
  rw [this]; rfl
theorem and1_u64 {n : Int} (h0 : 0 ≤ n) (h1 : n ≤ 18446744073709551615) : ibits .and .u64 n 1 = n % 2 := by
  obtain ⟨m, rfl⟩ := nat_of h0
  have := ib_and .u64 rfl (a := m) (b := 1) (by simp [IntKind.bits]; omega) (by simp [IntKind.bits])
  rw [show ((1 : Int)) = ((1 : Nat) : Int) from rfl, this, Nat.and_one_is_mod]; rfl
/-- A sum of bits that do not meet. -/
theorem or_shift (a x k : Nat) (h : a < 2 ^ k) : a ||| x * 2 ^ k = a + x * 2 ^ k := by
  rw [Nat.or_comm, Nat.mul_comm, ← Nat.two_pow_add_eq_or_of_lt h, Nat.add_comm]
theorem or_add_u64 {N X : Int} {k : Nat} (h0 : 0 ≤ N) (h1 : N < 2 ^ k) (h2 : 0 ≤ X) (h3 : X * 2 ^ k < 18446744073709551616) (hk : k ≤ 63) :
    ibits .or .u64 N (ishl .u64 X (k : Int)) = N + X * 2 ^ k := by
  obtain ⟨a, rfl⟩ := nat_of h0
  obtain ⟨x, rfl⟩ := nat_of h2
  have hm : min ((k : Int)).toNat IntKind.u64.bits = k := by simp [IntKind.bits]; omega
  have e1 : ishl .u64 (x : Int) (k : Int) = ((x * 2 ^ k : Nat) : Int) := by
    rw [ishl, hm, wm_u64, Int.emod_eq_of_lt (Int.mul_nonneg (by omega) (Int.pow_nonneg (by omega))) (by simpa using h3)]
    simp
  have h3' : x * 2 ^ k < 2 ^ 64 := by
    have : ((x * 2 ^ k : Nat) : Int) < 18446744073709551616 := by simpa using h3
    omega
  have h1' : a < 2 ^ k := by
    have : ((a : Nat) : Int) < ((2 ^ k : Nat) : Int) := by simpa using h1
    omega
  have h4 : a < 2 ^ 64 := Nat.lt_of_lt_of_le h1' (Nat.pow_le_pow_right (by omega) (by omega))
  rw [e1, ib_or .u64 rfl (by simpa [IntKind.bits] using h4) (by simpa [IntKind.bits] using h3'), or_shift a x k h1']
  simp

/-! zigzag -/
def zig (n : Int) : Int := if n < 0 then 2 * (-(n + 1)) + 1 else 2 * n
def zag (n : Int) : Int := if n % 2 = 1 then -(n / 2) - 1 else n / 2
theorem zag_zig (n : Int) : zag (zig n) = n := by
  unfold zig zag
  split <;> split <;> omega
theorem zig_zag {n : Int} (h : 0 ≤ n) : zig (zag n) = n := by
  unfold zig zag
  split <;> split <;> omega
theorem xor_ones (a : Nat) (h : a < 2 ^ 64) : a ^^^ (2 ^ 64 - 1) = 2 ^ 64 - 1 - a := by
  have h1 : (BitVec.ofNat 64 a ^^^ BitVec.allOnes 64).toNat = (~~~ BitVec.ofNat 64 a).toNat := by
    rw [BitVec.xor_allOnes]
  rw [BitVec.toNat_xor, BitVec.toNat_allOnes, BitVec.toNat_not, BitVec.toNat_ofNat, Nat.mod_eq_of_lt h] at h1
  exact h1
theorem zig_bits {n : Int} (h1 : -9223372036854775808 ≤ n) (h2 : n ≤ 9223372036854775807) :
    ibits .xor .u64 (IntKind.u64.wrap (IntKind.i64.wrap (n * 2 ^ 1))) (IntKind.u64.wrap (Int.fdiv n (2 ^ 63))) = zig n := by
  have e1 : IntKind.u64.wrap (IntKind.i64.wrap (n * 2 ^ 1)) = (2 * n) % 18446744073709551616 := by
    rw [wm_u64, wm_i64]; omega
  have e2 : Int.fdiv n (2 ^ 63) = if n < 0 then -1 else 0 := by
    rw [fd _ (by decide)]
    have : (2 ^ 63 : Int) = 9223372036854775808 := by decide
    rw [this]
    split <;> omega
  rw [e1, e2]
  by_cases hn : n < 0
  · rw [if_pos hn, show IntKind.u64.wrap (-1) = ((2 ^ 64 - 1 : Nat) : Int) from by rw [wm_u64]; decide]
    obtain ⟨m, hm⟩ := nat_of (show 0 ≤ (2 * n) % 18446744073709551616 by omega)
    have hlt : m < 2 ^ 64 := by omega
    rw [hm, ib_xor .u64 rfl (by simpa [IntKind.bits] using hlt) (by simp [IntKind.bits]), xor_ones m hlt]
    unfold zig
    rw [if_pos hn]
    omega
  · rw [if_neg hn, show IntKind.u64.wrap 0 = ((0 : Nat) : Int) from by rw [wm_u64]; decide]
    obtain ⟨m, hm⟩ := nat_of (show 0 ≤ (2 * n) % 18446744073709551616 by omega)
    have hlt : m < 2 ^ 64 := by omega
    rw [hm, ib_xor .u64 rfl (by simpa [IntKind.bits] using hlt) (by simp [IntKind.bits]), Nat.xor_zero]
    unfold zig
    rw [if_neg hn]
    omega
theorem ofInt_neg1 : BitVec.ofInt 64 (-1) = BitVec.allOnes 64 := by decide
theorem zag_bits {n : Int} (h1 : 0 ≤ n) (h2 : n ≤ 18446744073709551615) :
    ibits .xor .i64 (IntKind.i64.wrap (Int.fdiv n (2 ^ 1))) (IntKind.i64.wrap (0 - (IntKind.i64.wrap (ibits .and .u64 n 1)))) = zag n := by
  rw [and1_u64 h1 h2, fd _ (by decide), show (2 ^ 1 : Int) = 2 from rfl, w_i64 (by omega) (by omega), w_i64 (n := n % 2) (by omega) (by omega), w_i64 (by omega) (by omega)]
  obtain ⟨m, rfl⟩ := nat_of h1
  unfold zag
  have hm : ((m : Int) / 2) = ((m / 2 : Nat) : Int) := rfl
  have hlt : m / 2 < 2 ^ 64 := by omega
  by_cases ho : (m : Int) % 2 = 1
  · rw [if_pos ho, ho]
    simp only [ibits, hm]
    rw [show (0 - 1 : Int) = -1 from rfl, show BitVec.ofInt IntKind.i64.bits (-1) = BitVec.allOnes IntKind.i64.bits from ofInt_neg1, BitVec.xor_allOnes, BitVec.toNat_not, ofInt_nat _ _ (by simpa [IntKind.bits] using hlt), wm_i64]
    simp only [IntKind.bits]
    omega
  · have : (m : Int) % 2 = 0 := by omega
    rw [if_neg ho, this]
    simp only [ibits, hm]
    rw [show (0 - 0 : Int) = ((0 : Nat) : Int) from rfl, BitVec.toNat_xor, ofInt_nat _ _ (by simpa [IntKind.bits] using hlt), ofInt_nat _ _ (Nat.two_pow_pos _), Nat.xor_zero, wm_i64]
    omega
end Go.Proofs.Ytjgijifankaglaa.SX
