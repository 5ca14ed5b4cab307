/- Plain facts on the numbers that package num writes and reads. -/
import Derived.Test.YtjgijifankaglaaNU
namespace Go.Proofs.Ytjgijifankaglaa
open Go Go.RowKit Go.Proofs.Ytjgijifankaglaa.SX
set_option linter.unusedVariables false

theorem uv_bys (n : Nat) : bys (uv n) := by
  induction n using Nat.strongRecOn with
  | ind n ih =>
    by_cases h : n < 128
    · rw [uv_lt h]; intro x hx; simp at hx; omega
    · rw [uv_ge h]; intro x hx
      rcases List.mem_cons.1 hx with rfl | hx
      · omega
      · exact ih (n / 128) (by omega) x hx
theorem bys_append {xs ys : List Int} (h1 : bys xs) (h2 : bys ys) : bys (xs ++ ys) := fun x hx => (List.mem_append.1 hx).elim (h1 x) (h2 x)
theorem bys_take {xs : List Int} (h : bys xs) (k : Nat) : bys (xs.take k) := fun x hx => h x (List.mem_of_mem_take hx)
theorem bys_drop {xs : List Int} (h : bys xs) (k : Nat) : bys (xs.drop k) := fun x hx => h x (List.mem_of_mem_drop hx)

theorem uintF_uv (rest : List Int) : ∀ (n i : Nat) (acc : Int), n * 128 ^ i < 18446744073709551616 → i ≤ 9 → (i = 0 ∨ n ≠ 0) →
    uintF i acc (uv n ++ rest) = (acc + n * 128 ^ i, (i : Int) + (uv n).length) := by
  intro n
  induction n using Nat.strongRecOn with
  | ind n ih =>
    intro i acc hlt h9 h0
    by_cases h : n < 128
    · rw [uv_lt h]
      simp only [List.cons_append, List.nil_append, uintF, if_neg (show ¬ 10 ≤ i by omega), if_neg (show ¬ (128 : Int) ≤ (n : Int) by omega)]
      rw [if_neg]
      · rfl
      · rintro (⟨h1, h2⟩ | ⟨h1, h2⟩)
        · omega
        · subst h1
          have : (128 : Nat) ^ 9 = 9223372036854775808 := by decide
          rw [this] at hlt; omega
    · rw [uv_ge h]
      simp only [List.cons_append, uintF, if_neg (show ¬ 10 ≤ i by omega), if_pos (show (128 : Int) ≤ ((n % 128 + 128 : Nat) : Int) by omega)]
      have h3 : n / 128 * 128 ≤ n := Nat.div_mul_le_self n 128
      have h4 : n / 128 * 128 * 128 ^ i ≤ n * 128 ^ i := Nat.mul_le_mul_right _ h3
      have h5 : n / 128 * 128 ^ (i + 1) = n / 128 * 128 * 128 ^ i := by rw [Nat.pow_succ, Nat.mul_assoc, Nat.mul_comm (128 ^ i)]
      have h8 : i ≤ 8 := by
        rcases Nat.lt_or_ge i 9 with h8 | h8
        · omega
        · have : i = 9 := by omega
          subst this
          have : (128 : Nat) ^ 9 = 9223372036854775808 := by decide
          rw [this] at hlt; omega
      rw [ih (n / 128) (by omega) (i + 1) _ (by rw [h5]; omega) (by omega) (.inr (by omega))]
      refine Prod.ext ?_ ?_
      · show acc + ((n % 128 + 128 : Nat) : Int) % 128 * 128 ^ i + ((n / 128 : Nat) : Int) * 128 ^ (i + 1) = acc + n * 128 ^ i
        have e1 : ((n % 128 + 128 : Nat) : Int) % 128 = ((n % 128 : Nat) : Int) := by omega
        have e2 : ((n : Nat) : Int) = ((n % 128 : Nat) : Int) + ((n / 128 : Nat) : Int) * 128 := by omega
        rw [e1, e2, Int.pow_succ, Int.add_mul, Int.mul_assoc _ 128, Int.mul_comm 128, Int.add_assoc]
      · show ((i + 1 : Nat) : Int) + ((uv (n / 128)).length : Int) = (i : Int) + ((((n % 128 + 128 : Nat) : Int) :: uv (n / 128)).length : Int)
        simp only [List.length_cons]; omega
theorem uint_uv {n : Nat} (hn : n < 18446744073709551616) (rest : List Int) : uint (uv n ++ rest) = ((n : Int), ((uv n).length : Int)) := by
  unfold uint
  rw [uintF_uv rest n 0 0 (by simpa using hn) (by omega) (.inl rfl)]
  simp
theorem uint_uv' {n : Nat} (hn : n < 18446744073709551616) : uint (uv n) = ((n : Int), ((uv n).length : Int)) := by
  have := uint_uv hn []
  simpa using this

theorem uintF_cut : ∀ (n c i : Nat) (acc : Int), c < (uv n).length → uintF i acc ((uv n).take c) = (0, 0) := by
  intro n
  induction n using Nat.strongRecOn with
  | ind n ih =>
    intro c i acc hc
    cases c with
    | zero => rfl
    | succ c =>
      by_cases h : n < 128
      · rw [uv_lt h] at hc; simp at hc
      · rw [uv_ge h] at hc ⊢
        by_cases h10 : 10 ≤ i
        · exact uintF_ten acc _ h10
        · simp only [List.take_succ_cons, uintF, if_neg h10, if_pos (show (128 : Int) ≤ ((n % 128 + 128 : Nat) : Int) by omega)]
          exact ih (n / 128) (by omega) c _ _ (by simpa using hc)
theorem uint_cut {n c : Nat} (hc : c < (uv n).length) : uint ((uv n).take c) = (0, 0) := uintF_cut n c 0 0 hc

theorem uintF_back : ∀ (xs : List Int) (i : Nat) (acc : Int), bys xs → (uintF i acc xs).2 ≠ 0 →
    ∃ m : Nat, (uintF i acc xs).1 = acc + m * 128 ^ i ∧ (uintF i acc xs).2 = (i : Int) + (uv m).length ∧ xs.take (uv m).length = uv m ∧ (0 < i → m ≠ 0) := by
  intro xs
  induction xs with
  | nil => intro i acc _ h; simp [uintF] at h
  | cons c cs ih =>
    intro i acc hb hne
    have hc := hb c (by simp)
    by_cases h10 : 10 ≤ i
    · rw [uintF_ten acc _ h10] at hne; simp at hne
    · simp only [uintF, if_neg h10] at hne ⊢
      by_cases h128 : 128 ≤ c
      · simp only [if_pos h128] at hne ⊢
        obtain ⟨m, h1, h2, h3, h4⟩ := ih (i + 1) _ (fun x hx => hb x (by simp [hx])) hne
        have hm := h4 (by omega)
        have e1 : (c.toNat % 128 + 128 * m) / 128 = m := by omega
        have e2 : (c.toNat % 128 + 128 * m) % 128 = c.toNat % 128 := by omega
        refine ⟨c.toNat % 128 + 128 * m, ?_, ?_, ?_, fun _ => by omega⟩
        · rw [h1, Int.pow_succ]
          have e3 : ((c.toNat % 128 + 128 * m : Nat) : Int) = c % 128 + 128 * m := by omega
          rw [e3, Int.add_mul, Int.mul_comm (128 ^ i) 128, ← Int.mul_assoc, Int.mul_comm (m : Int) 128, Int.add_assoc]
        · rw [h2, uv_ge (n := c.toNat % 128 + 128 * m) (by omega), e1]; simp; omega
        · rw [uv_ge (n := c.toNat % 128 + 128 * m) (by omega), e1, e2]
          simp only [List.length_cons, List.take_succ_cons, h3]
          congr 1; omega
      · simp only [if_neg h128] at hne ⊢
        by_cases hz : (0 < i ∧ c = 0) ∨ (i = 9 ∧ 1 < c)
        · simp [if_pos hz] at hne
        · simp only [if_neg hz]
          refine ⟨c.toNat, ?_, ?_, ?_, fun _ => by omega⟩
          · rw [Int.toNat_of_nonneg hc.1]
          · rw [uv_lt (by omega)]; simp
          · rw [uv_lt (by omega)]; simp; omega
theorem uint_back {xs : List Int} (hb : bys xs) (h : (uint xs).2 ≠ 0) : uv (uint xs).1.toNat = xs.take (uint xs).2.toNat := by
  obtain ⟨m, h1, h2, h3, _⟩ := uintF_back xs 0 0 hb h
  have e1 : (uint xs).1 = m := by unfold uint; rw [h1]; simp
  have e2 : (uint xs).2 = (uv m).length := by unfold uint; rw [h2]; simp
  rw [e1, e2, Int.toNat_natCast, Int.toNat_natCast, h3]

/-! Bytes -/
end Go.Proofs.Ytjgijifankaglaa
