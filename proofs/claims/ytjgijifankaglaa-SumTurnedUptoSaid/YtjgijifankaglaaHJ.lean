/- The plain law of SumTurned: bits turned within 32 in a row change the CRC. -/
import Derived.Test.YtjgijifankaglaaSL
namespace Go.Proofs.Ytjgijifankaglaa
set_option linter.unusedVariables false

/-- bytes, with the bits of a number turned -/
def zx : List Nat → Nat → List Nat
  | [], _ => []
  | x :: l, V => (x ^^^ (V % 256)) :: zx l (V / 256)
theorem zx_len : ∀ (l : List Nat) (V : Nat), (zx l V).length = l.length
  | [], _ => rfl
  | x :: l, V => by unfold zx; rw [List.length_cons, zx_len l, List.length_cons]
theorem zx_zero : ∀ (l : List Nat), zx l 0 = l
  | [] => rfl
  | x :: l => by unfold zx; rw [Nat.zero_div, zx_zero l]; simp
theorem zx_lt : ∀ (l : List Nat) (V : Nat), (∀ x ∈ l, x < 256) → ∀ x ∈ zx l V, x < 256
  | [], _, _, x, hx => nomatch hx
  | y :: l, V, h, x, hx => by
    unfold zx at hx
    rcases List.mem_cons.1 hx with rfl | hx
    · exact Nat.xor_lt_two_pow (n := 8) (h y (List.mem_cons_self ..)) (Nat.mod_lt _ (by omega))
    · exact zx_lt l _ (fun z hz => h z (List.mem_cons_of_mem _ hz)) x hx
theorem xor_div (a b : Nat) : (a ^^^ b) / 256 = a / 256 ^^^ b / 256 := by
  have := Nat.shiftRight_xor_distrib (a := a) (b := b) (i := 8)
  simpa [Nat.shiftRight_eq_div_pow] using this
theorem xor_mod (a b : Nat) : (a ^^^ b) % 256 = a % 256 ^^^ b % 256 := Nat.xor_mod_two_pow (a := a) (b := b) (n := 8)
theorem zx_set : ∀ (l : List Nat) (V p : Nat) (h : p / 8 < (zx l V).length), (zx l V).set (p / 8) ((zx l V)[p / 8] ^^^ 2 ^ (p % 8)) = zx l (V ^^^ 2 ^ p)
  | [], V, p, h => rfl
  | x :: l, V, p, h => by
    by_cases hp : p < 8
    · have e0 : p / 8 = 0 := by omega
      have e1 : p % 8 = p := by omega
      have e2 : 2 ^ p < 256 := by
        have := Nat.pow_lt_pow_right (a := 2) (by omega) hp
        simpa using this
      have hd : (V ^^^ 2 ^ p) / 256 = V / 256 := by rw [xor_div, Nat.div_eq_of_lt e2, Nat.xor_zero]
      have hm : (V ^^^ 2 ^ p) % 256 = V % 256 ^^^ 2 ^ p := by rw [xor_mod, Nat.mod_eq_of_lt e2]
      simp only [e0, e1, zx, List.set_cons_zero, List.getElem_cons_zero, hd, hm, Nat.xor_assoc]
    · obtain ⟨q, rfl⟩ : ∃ q, p = q + 8 := ⟨p - 8, by omega⟩
      have e0 : (q + 8) / 8 = q / 8 + 1 := by omega
      have e1 : (q + 8) % 8 = q % 8 := by omega
      have e2 : 2 ^ (q + 8) = 2 ^ q * 256 := by rw [Nat.pow_add]
      have hd : (V ^^^ 2 ^ (q + 8)) / 256 = V / 256 ^^^ 2 ^ q := by rw [xor_div, e2, Nat.mul_div_cancel _ (by omega)]
      have hm : (V ^^^ 2 ^ (q + 8)) % 256 = V % 256 := by rw [xor_mod, e2, Nat.mul_mod_left, Nat.xor_zero]
      have hl : q / 8 < (zx l (V / 256)).length := by
        unfold zx at h
        simp only [List.length_cons] at h
        omega
      have ih := zx_set l (V / 256) q hl
      simp only [e0, e1, zx, List.set_cons_succ, List.getElem_cons_succ, hd, hm, ih]
theorem steps_add : ∀ (a b n : Nat), steps (a + b) n = steps a (steps b n)
  | a, 0, n => rfl
  | a, b + 1, n => by rw [← Nat.add_assoc, steps, steps, steps_add a b]
def stB (n b : Nat) : Nat := steps 8 (n ^^^ b)
theorem fold_zx : ∀ (l : List Nat) (V s t : Nat), V < 2 ^ (8 * l.length) → (zx l V).foldl stB (s ^^^ t) = l.foldl stB s ^^^ steps (8 * l.length) (t ^^^ V)
  | [], V, s, t, h => by
    have : V = 0 := by simpa using h
    subst this
    simp [zx, steps]
  | x :: l, V, s, t, h => by
    have hV : V / 256 < 2 ^ (8 * l.length) := by
      rw [Nat.div_lt_iff_lt_mul (by omega)]
      have e : 2 ^ (8 * (x :: l).length) = 2 ^ (8 * l.length) * 256 := by rw [List.length_cons, Nat.mul_add, Nat.pow_add]
      rwa [e] at h
    have e1 : stB (s ^^^ t) (x ^^^ V % 256) = stB s x ^^^ steps 8 (t ^^^ V % 256) := by
      unfold stB
      rw [← steps_xor]
      congr 1
      simp only [Nat.xor_assoc, xlc, Nat.xor_comm]
    have e2 : steps 8 (t ^^^ V % 256) ^^^ V / 256 = steps 8 (t ^^^ V) := by
      have h1 : steps 8 (V / 256 * 256) = V / 256 := by
        rw [steps_low 8 _ (by omega), Nat.shiftRight_eq_div_pow]; omega
      conv => rhs; rw [split8 V]
      rw [← h1, ← steps_xor, h1]
      congr 1
      rw [Nat.xor_assoc, Nat.xor_comm (V % 256)]
    rw [zx, List.foldl_cons, List.foldl_cons, e1, fold_zx l (V / 256) _ _ hV, e2, List.length_cons, Nat.mul_add, steps_add]
theorem stepN_ne {n : Nat} (h : n < 2 ^ 32) (h0 : n ≠ 0) : stepN n ≠ 0 := by
  unfold stepN
  rw [Nat.shiftRight_eq_div_pow]
  split
  · intro hx
    have h1 := xxc (n / 2 ^ 1) crcP
    rw [hx, Nat.xor_zero] at h1
    unfold crcP at h1
    omega
  · rw [Nat.xor_zero]; omega
theorem steps_ne : ∀ (k : Nat) {n : Nat}, n < 2 ^ 32 → n ≠ 0 → steps k n ≠ 0
  | 0, n, _, h0 => h0
  | k + 1, n, h, h0 => by rw [steps]; exact steps_ne k (stepN_lt h) (stepN_ne h h0)
theorem crcS_def (bs : List Nat) : crcS bs = 4294967295 ^^^ bs.foldl stB 4294967295 := rfl
/-- turned: another CRC -/
theorem crc_turned (l : List Nat) (bits n : Nat) (hb : bits < 2 ^ 32) (h0 : bits ≠ 0) (hn : n + 32 ≤ 8 * l.length) : crcS (zx l (bits * 2 ^ n)) ≠ crcS l := by
  intro he
  rw [crcS_def, crcS_def] at he
  have hV : bits * 2 ^ n < 2 ^ (8 * l.length) := by
    have h1 : bits * 2 ^ n < 2 ^ 32 * 2 ^ n := Nat.mul_lt_mul_of_pos_right hb (Nat.two_pow_pos n)
    have h2 : 2 ^ 32 * 2 ^ n ≤ 2 ^ (8 * l.length) := by rw [← Nat.pow_add]; exact Nat.pow_le_pow_right (by omega) (by omega)
    omega
  have h1 := fold_zx l (bits * 2 ^ n) 4294967295 0 hV
  rw [Nat.xor_zero, Nat.zero_xor] at h1
  rw [h1] at he
  have h2 : steps (8 * l.length) (bits * 2 ^ n) = steps (8 * l.length - n) bits := by
    have : 8 * l.length = (8 * l.length - n) + n := by omega
    conv => lhs; rw [this]
    rw [steps_add, steps_low n _ (Nat.mul_mod_left _ _), Nat.shiftRight_eq_div_pow, Nat.mul_div_cancel _ (Nat.two_pow_pos n)]
  rw [h2] at he
  have h3 := steps_ne (8 * l.length - n) hb h0
  apply h3
  generalize steps (8 * l.length - n) bits = d at *
  generalize List.foldl stB 4294967295 l = f at *
  have := congrArg (fun x => f ^^^ (4294967295 ^^^ x)) he
  simp only [xxc, ← Nat.xor_assoc, Nat.xor_self] at this
  exact this
theorem pow_xor {x p : Nat} (h : x < 2 ^ p) : x + 2 ^ p = x ^^^ 2 ^ p := by
  rw [Nat.add_comm]
  apply Nat.eq_of_testBit_eq
  intro k
  rw [Nat.testBit_xor, Nat.testBit_two_pow]
  rcases Nat.lt_trichotomy k p with hk | hk | hk
  · rw [Nat.testBit_two_pow_add_gt hk]
    have : ¬ p = k := by omega
    simp [this]
  · subst hk
    rw [Nat.testBit_two_pow_add_eq]
    simp
  · have h1 : 2 ^ p + x < 2 ^ k := by
      have : 2 ^ (p + 1) ≤ 2 ^ k := Nat.pow_le_pow_right (by omega) hk
      rw [Nat.pow_succ] at this; omega
    have h2 : x < 2 ^ k := by omega
    rw [Nat.testBit_lt_two_pow h1, Nat.testBit_lt_two_pow h2]
    have : ¬ p = k := by omega
    simp [this]
/-- one bit more -/
theorem bit_more (B i n : Nat) : (B % 2 ^ (i + 1)) * 2 ^ n = if B / 2 ^ i % 2 = 1 then (B % 2 ^ i) * 2 ^ n ^^^ 2 ^ (n + i) else (B % 2 ^ i) * 2 ^ n := by
  have h := Nat.mod_pow_succ (x := B) (b := 2) (k := i)
  rw [h]
  have h2 := Nat.mod_two_eq_zero_or_one (B / 2 ^ i)
  split
  · rename_i h1
    rw [h1, Nat.mul_one, Nat.add_mul, ← Nat.pow_add, Nat.add_comm i n]
    apply pow_xor
    rw [Nat.pow_add, Nat.mul_comm]
    exact Nat.mul_lt_mul_of_pos_left (Nat.mod_lt _ (Nat.two_pow_pos i)) (Nat.two_pow_pos n)
  · have h1 : B / 2 ^ i % 2 = 0 := by omega
    rw [h1, Nat.mul_zero, Nat.add_zero]
end Go.Proofs.Ytjgijifankaglaa
