/- The plain law of the CRC: eight steps of a sum, and the table's way. -/
import Derived.WalkKit
namespace Go.Proofs.Ytjgijifankaglaa
set_option linter.unusedVariables false
set_option linter.unusedSimpArgs false

def crcP : Nat := 3988292384
def stepN (n : Nat) : Nat := (n >>> 1) ^^^ (if n % 2 = 1 then crcP else 0)
def steps : Nat → Nat → Nat
  | 0, n => n
  | k + 1, n => steps k (stepN n)
theorem steps_succ (k n : Nat) : steps (k + 1) n = stepN (steps k n) := by
  induction k generalizing n with
  | zero => rfl
  | succ k ih => rw [steps, ih, steps]
theorem xlc (a b c : Nat) : a ^^^ (b ^^^ c) = b ^^^ (a ^^^ c) := by rw [← Nat.xor_assoc, Nat.xor_comm a b, Nat.xor_assoc]
theorem xxc (a b : Nat) : a ^^^ (a ^^^ b) = b := by rw [← Nat.xor_assoc, Nat.xor_self, Nat.zero_xor]
theorem stepN_xor (a b : Nat) : stepN (a ^^^ b) = stepN a ^^^ stepN b := by
  unfold stepN
  rw [Nat.shiftRight_xor_distrib]
  have h : (a ^^^ b) % 2 = (a % 2 + b % 2) % 2 := by
    have h1 := Nat.testBit_xor a b 0
    simp only [Nat.testBit_zero] at h1
    have ha := Nat.mod_two_eq_zero_or_one a
    have hb := Nat.mod_two_eq_zero_or_one b
    have hab := Nat.mod_two_eq_zero_or_one (a ^^^ b)
    rcases ha with ha | ha <;> rcases hb with hb | hb <;> rcases hab with hab | hab <;> simp [ha, hb, hab] at h1 ⊢
  rw [h]
  have ha := Nat.mod_two_eq_zero_or_one a
  have hb := Nat.mod_two_eq_zero_or_one b
  rcases ha with ha | ha <;> rcases hb with hb | hb <;> simp [ha, hb, Nat.xor_assoc, Nat.xor_comm, xlc, xxc]
theorem steps_xor (k a b : Nat) : steps k (a ^^^ b) = steps k a ^^^ steps k b := by
  induction k generalizing a b with
  | zero => rfl
  | succ k ih => rw [steps, steps, steps, stepN_xor, ih]
theorem stepN_even {n : Nat} (h : n % 2 = 0) : stepN n = n >>> 1 := by unfold stepN; rw [if_neg (by omega)]; simp
theorem steps_low : ∀ (k n : Nat), n % 2 ^ k = 0 → steps k n = n >>> k
  | 0, n, h => by simp [steps]
  | k + 1, n, h => by
    have h2 : n % 2 = 0 := by
      have := Nat.mod_mod_of_dvd n (show 2 ∣ 2 ^ (k + 1) from ⟨2 ^ k, by rw [Nat.pow_succ, Nat.mul_comm]⟩)
      rw [h] at this; simpa using this.symm
    rw [steps, stepN_even h2]
    have h3 : (n >>> 1) % 2 ^ k = 0 := by
      rw [Nat.shiftRight_eq_div_pow, Nat.pow_one]
      have hd : 2 ^ (k + 1) ∣ n := Nat.dvd_of_mod_eq_zero h
      obtain ⟨m, rfl⟩ := hd
      rw [Nat.pow_succ, Nat.mul_comm (2 ^ k) 2, Nat.mul_assoc, Nat.mul_div_cancel_left _ (by omega)]
      simp
    rw [steps_low k _ h3, ← Nat.shiftRight_add, Nat.add_comm]
theorem stepN_lt {n : Nat} (h : n < 2 ^ 32) : stepN n < 2 ^ 32 := by
  unfold stepN
  refine Nat.xor_lt_two_pow ?_ ?_
  · rw [Nat.shiftRight_eq_div_pow]; omega
  · split
    · decide
    · omega
theorem steps_lt : ∀ (k : Nat) {n : Nat}, n < 2 ^ 32 → steps k n < 2 ^ 32
  | 0, n, h => h
  | k + 1, n, h => by rw [steps]; exact steps_lt k (stepN_lt h)
/-- the low byte off -/
theorem split8 (n : Nat) : n = (n / 256 * 256) ^^^ (n % 256) := by
  have h := Nat.div_add_mod n 256
  have e : (n / 256 * 256) ^^^ (n % 256) = n / 256 * 256 + n % 256 := by
    have h1 : (2 ^ 8 * (n / 256)) ||| (n % 256) = 2 ^ 8 * (n / 256) + n % 256 := (Nat.two_pow_add_eq_or_of_lt (by omega) _).symm
    have h2 : (2 ^ 8 * (n / 256)) &&& (n % 256) = 0 := by
      apply Nat.eq_of_testBit_eq
      intro i
      rw [Nat.testBit_and, Nat.zero_testBit, Nat.testBit_two_pow_mul]
      by_cases hi : 8 ≤ i
      · have : (n % 256).testBit i = false := Nat.testBit_lt_two_pow (Nat.lt_of_lt_of_le (by omega : n % 256 < 2 ^ 8) (Nat.pow_le_pow_right (by omega) hi))
        simp [this]
      · simp [hi]
    have h3 : (2 ^ 8 * (n / 256)) ^^^ (n % 256) = (2 ^ 8 * (n / 256)) ||| (n % 256) := by
      apply Nat.eq_of_testBit_eq
      intro i
      have := congrArg (fun x => Nat.testBit x i) h2
      simp only [Nat.testBit_and, Nat.zero_testBit] at this
      rw [Nat.testBit_xor, Nat.testBit_or]
      revert this
      cases (2 ^ 8 * (n / 256)).testBit i <;> cases (n % 256).testBit i <;> simp
    rw [show n / 256 * 256 = 2 ^ 8 * (n / 256) by omega, h3, h1]
  rw [e]; omega
theorem crc_table (n c : Nat) (hc : c < 256) : steps 8 (n ^^^ c) = (n / 256) ^^^ steps 8 (n % 256 ^^^ c) := by
  conv => lhs; rw [split8 n]
  rw [Nat.xor_assoc, steps_xor, steps_low 8 _ (by omega)]
  congr 1
  rw [Nat.shiftRight_eq_div_pow]; omega
def crcS (bs : List Nat) : Nat := 4294967295 ^^^ bs.foldl (fun n b => steps 8 (n ^^^ b)) 4294967295
end Go.Proofs.Ytjgijifankaglaa
