/- Rows of bits: their numbers, and the bytes that hold them. -/
import Derived.Test.YthhcaaellhdkiaaNW
namespace Go.Proofs.Ythhcaaellhdkiaa
open Go Go.RowKit Go.Proofs.Ythhcaaellhdkiaa.SX
set_option linter.unusedVariables false

/-- the number that a row of bits is, the first bit the highest -/
def num : List Bool → Nat
  | [] => 0
  | b :: l => b.toNat * 2 ^ l.length + num l
theorem num_append (l m : List Bool) : num (l ++ m) = num l * 2 ^ m.length + num m := by
  induction l with
  | nil => simp [num]
  | cons b l ih =>
    simp only [List.cons_append, num, ih, List.length_append, Nat.pow_add]
    rw [Nat.add_mul, Nat.mul_assoc]; omega
theorem num_lt (l : List Bool) : num l < 2 ^ l.length := by
  induction l with
  | nil => simp [num]
  | cons b l ih =>
    simp only [num, List.length_cons, Nat.pow_succ]
    cases b <;> simp <;> omega
theorem num_snoc (l : List Bool) (b : Bool) : num (l ++ [b]) = 2 * num l + b.toNat := by
  rw [num_append]; simp [num]; omega

/-- the low n bits of a number -/
def bo (v : Nat) : Nat → List Bool
  | 0 => []
  | n + 1 => (v / 2 ^ n % 2 == 1) :: bo v n
theorem bo_len (v n : Nat) : (bo v n).length = n := by induction n with
  | zero => rfl
  | succ n ih => simp [bo, ih]
theorem bit_nat (x : Nat) : (x % 2 == 1).toNat = x % 2 := by
  rcases Nat.mod_two_eq_zero_or_one x with h | h <;> simp [h]
theorem num_bo (v n : Nat) : num (bo v n) = v % 2 ^ n := by
  induction n with
  | zero => simp [bo, num, Nat.mod_one]
  | succ n ih =>
    simp only [bo, num, bo_len, ih, bit_nat]
    rw [Nat.pow_succ, Nat.mod_mul, Nat.mul_comm, Nat.add_comm]
theorem bo_append (v n k : Nat) (hk : k ≤ n) : bo v n = bo (v / 2 ^ (n - k)) k ++ bo v (n - k) := by
  induction k with
  | zero => simp [bo]
  | succ k ih =>
    have h := ih (by omega)
    rw [h]
    have e : n - k = (n - (k + 1)) + 1 := by omega
    rw [e]
    simp only [bo]
    have e2 : bo (v / 2 ^ (n - (k + 1))) (k + 1) = bo (v / 2 ^ (n - (k + 1) + 1)) k ++ [v / 2 ^ (n - (k + 1)) % 2 == 1] := by
      clear h ih e hk
      generalize n - (k + 1) = j
      induction k with
      | zero => simp [bo]
      | succ k ih =>
        rw [show bo (v / 2 ^ j) (k + 1 + 1) = (v / 2 ^ j / 2 ^ (k + 1) % 2 == 1) :: bo (v / 2 ^ j) (k + 1) from rfl, ih,
          show bo (v / 2 ^ (j + 1)) (k + 1) = (v / 2 ^ (j + 1) / 2 ^ k % 2 == 1) :: bo (v / 2 ^ (j + 1)) k from rfl]
        simp only [List.cons_append, Nat.div_div_eq_div_mul, ← Nat.pow_add]
        rw [show j + 1 + k = j + (k + 1) by omega]
    simp only [bo] at e2
    have := congrArg (· ++ bo v (n - (k + 1))) e2
    simpa using this.symm

/-- the byte at place j of a row's bytes -/
def byteAt (l : List Bool) (j : Nat) : Nat := num ((l.drop (8 * j)).take 8) * 2 ^ (8 - ((l.drop (8 * j)).take 8).length)
theorem byteAt_lt (l : List Bool) (j : Nat) : byteAt l j < 256 := by
  have h := num_lt ((l.drop (8 * j)).take 8)
  have h8 : ((l.drop (8 * j)).take 8).length ≤ 8 := by simp; omega
  unfold byteAt
  have := Nat.mul_lt_mul_of_pos_right h (Nat.two_pow_pos (8 - ((l.drop (8 * j)).take 8).length))
  rw [← Nat.pow_add, Nat.add_sub_cancel' h8] at this
  exact this
/-- the bytes of a row -/
def pk (l : List Bool) : List Int := (List.range ((l.length + 7) / 8)).map (fun j => (byteAt l j : Int))
theorem pk_len (l : List Bool) : (pk l).length = (l.length + 7) / 8 := by simp [pk]
theorem pk_bys (l : List Bool) : bys (pk l) := by
  intro x hx
  simp only [pk, List.mem_map] at hx
  obtain ⟨j, _, rfl⟩ := hx
  have := byteAt_lt l j
  omega
theorem byteAt_append (l m : List Bool) (j : Nat) (h1 : 8 * j ≤ l.length) (h2 : l.length + m.length ≤ 8 * j + 8) : byteAt (l ++ m) j = byteAt l j + num m * 2 ^ (8 * j + 8 - l.length - m.length) := by
  unfold byteAt
  have e1 : ((l ++ m).drop (8 * j)).take 8 = l.drop (8 * j) ++ m := by
    rw [List.drop_append_of_le_length h1, List.take_of_length_le (by simp; omega)]
  have e2 : (l.drop (8 * j)).take 8 = l.drop (8 * j) := List.take_of_length_le (by simp; omega)
  rw [e1, e2, num_append, Nat.add_mul, Nat.mul_assoc, ← Nat.pow_add]
  simp only [List.length_append, List.length_drop]
  congr 2
  · congr 1; omega
  · congr 1; omega
theorem byteAt_same (l m : List Bool) (j : Nat) (h : 8 * j + 8 ≤ l.length) : byteAt (l ++ m) j = byteAt l j := by
  unfold byteAt
  rw [List.drop_append_of_le_length (by omega), List.take_append_of_le_length (by simp; omega)]
end Go.Proofs.Ythhcaaellhdkiaa
