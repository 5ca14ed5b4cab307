/- What the functions of package num and of its reference return. -/
import Derived.Test.YtjgijifankaglaaM
import Derived.Test.YtjgijifankaglaaA
import Derived.Test.YtjgijifankaglaaGNa
namespace Go.Proofs.Ytjgijifankaglaa
open Go Go.RowKit Go.Proofs.Ytjgijifankaglaa.SX
set_option linter.unusedVariables false

abbrev B8 : Int → Value := Value.int .u8
theorem ty22 : Ty Try.prog 33 5 (.int .u8 0) 1 := ⟨Try.underlying33, by kernel_rfl, rfl, by omega⟩
theorem b8one (x : Int) : (B8 x).oneCell' = true := rfl

/-! ### the plain functions -/
def uv (n : Nat) : List Int := if h : n < 128 then [(n : Int)] else (((n % 128 + 128 : Nat) : Int)) :: uv (n / 128)
theorem uv_lt {n : Nat} (h : n < 128) : uv n = [(n : Int)] := by rw [uv, dif_pos h]
theorem uv_ge {n : Nat} (h : ¬ n < 128) : uv n = (((n % 128 + 128 : Nat) : Int)) :: uv (n / 128) := by rw [uv, dif_neg h]
theorem uv_length : ∀ (k n : Nat), n < 128 ^ (k + 1) → (uv n).length ≤ k + 1
  | 0, n, h => by rw [uv_lt (by simpa using h)]; simp
  | k + 1, n, h => by
    by_cases hn : n < 128
    · rw [uv_lt hn]; simp
    · rw [uv_ge hn]
      have := uv_length k (n / 128) (by rw [Nat.div_lt_iff_lt_mul (by omega)]; rw [Nat.pow_succ] at h; omega)
      simpa using this
theorem uv_len10 {n : Nat} (h : n < 18446744073709551616) : (uv n).length ≤ 10 := uv_length 9 n (by simp only [Nat.reducePow, Nat.reduceAdd]; omega)

def uintF : Nat → Int → List Int → Int × Int
  | _, _, [] => (0, 0)
  | i, acc, c :: cs => if 10 ≤ i then (0, 0) else if 128 ≤ c then uintF (i + 1) (acc + (c % 128) * 128 ^ i) cs
    else if (0 < i ∧ c = 0) ∨ (i = 9 ∧ 1 < c) then (0, 0) else (acc + c * 128 ^ i, (i : Int) + 1)
def uint (xs : List Int) : Int × Int := uintF 0 0 xs
theorem uintF_ten (acc : Int) (xs : List Int) {i : Nat} (h : 10 ≤ i) : uintF i acc xs = (0, 0) := by
  cases xs with
  | nil => rfl
  | cons c cs => simp [uintF, h]
def bys (xs : List Int) : Prop := ∀ x ∈ xs, 0 ≤ x ∧ x ≤ 255
theorem pow128 (i : Nat) : (128 : Int) ^ i = 2 ^ (7 * i) := by rw [Int.pow_mul]; rfl
theorem uintF_range : ∀ (xs : List Int) (i : Nat) (acc : Int), bys xs → i ≤ 10 → (i ≤ 9 → 0 ≤ acc ∧ acc < 128 ^ i) →
    0 ≤ (uintF i acc xs).1 ∧ (uintF i acc xs).1 < 18446744073709551616 ∧ 0 ≤ (uintF i acc xs).2 ∧ (uintF i acc xs).2 ≤ 10 ∧ (uintF i acc xs).2 ≤ i + xs.length ∧ ((uintF i acc xs).2 = 0 → (uintF i acc xs).1 = 0) := by
  intro xs
  induction xs with
  | nil => intro i acc _ h10 _; simp [uintF]
  | cons c cs ih =>
    intro i acc hb h10 ha
    have hc := hb c (by simp)
    have hbs : bys cs := fun x hx => hb x (by simp [hx])
    by_cases hi : 10 ≤ i
    · rw [uintF_ten acc _ hi]; simp; omega
    · have ha' := ha (by omega)
      simp only [uintF, if_neg hi]
      by_cases h128 : 128 ≤ c
      · rw [if_pos h128]
        have := ih (i + 1) (acc + (c % 128) * 128 ^ i) hbs (by omega) (fun h9 => by
          have hp : (0 : Int) < 128 ^ i := Int.pow_pos (by omega)
          refine ⟨by have := Int.mul_nonneg (show (0:Int) ≤ c % 128 by omega) (Int.le_of_lt hp); omega, ?_⟩
          have h1 : (c % 128) * 128 ^ i ≤ 127 * 128 ^ i := Int.mul_le_mul_of_nonneg_right (by omega) (Int.le_of_lt hp)
          rw [Int.pow_succ]; omega)
        simp only [List.length_cons] at this ⊢
        refine ⟨this.1, this.2.1, this.2.2.1, this.2.2.2.1, ?_, this.2.2.2.2.2⟩
        have := this.2.2.2.2.1
        push_cast at this ⊢
        omega
      · rw [if_neg h128]
        by_cases hz : (0 < i ∧ c = 0) ∨ (i = 9 ∧ 1 < c)
        · rw [if_pos hz]; simp; omega
        · rw [if_neg hz]
          have hp : (0 : Int) < 128 ^ i := Int.pow_pos (by omega)
          have hm := Int.mul_nonneg hc.1 (Int.le_of_lt hp)
          have hub : acc + c * 128 ^ i < 18446744073709551616 := by
            by_cases h9 : i = 9
            · subst h9
              have : c ≤ 1 := by omega
              have h1 : c * 128 ^ 9 ≤ 1 * 128 ^ 9 := Int.mul_le_mul_of_nonneg_right this (Int.le_of_lt hp)
              have h2 : (128 : Int) ^ 9 = 9223372036854775808 := by decide
              rw [h2] at h1 ha' ⊢; omega
            · have h1 : c * 128 ^ i ≤ 127 * 128 ^ i := Int.mul_le_mul_of_nonneg_right (by omega) (Int.le_of_lt hp)
              have h2 : (128 : Int) ^ i ≤ 128 ^ 8 := by exact_mod_cast Nat.pow_le_pow_right (n := 128) (by omega) (show i ≤ 8 by omega)
              have h3 : (128 : Int) ^ 8 = 72057594037927936 := by decide
              rw [h3] at h2; omega
          refine ⟨by simp only; omega, hub, by simp only; omega, by simp only; omega, by simp only [List.length_cons]; push_cast; omega, fun h => by simp only at h; omega⟩
theorem uint_range {xs : List Int} (hb : bys xs) : 0 ≤ (uint xs).1 ∧ (uint xs).1 < 18446744073709551616 ∧ 0 ≤ (uint xs).2 ∧ (uint xs).2 ≤ 10 ∧ (uint xs).2 ≤ xs.length ∧ ((uint xs).2 = 0 → (uint xs).1 = 0) := by
  have := uintF_range xs 0 0 hb (by omega) (fun _ => by simp)
  simpa [uint] using this
end Go.Proofs.Ytjgijifankaglaa
