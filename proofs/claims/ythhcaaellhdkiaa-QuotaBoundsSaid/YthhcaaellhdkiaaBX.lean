/- The writer of package bits: Put. -/
import Derived.Test.YthhcaaellhdkiaaBW
namespace Go.Proofs.Ythhcaaellhdkiaa
open Go Go.RowKit Go.Proofs.Ythhcaaellhdkiaa.SX
set_option linter.unusedVariables false

/-- the bytes of a row with room for one more bit -/
def pkz (l : List Bool) : List Int := (List.range (l.length / 8 + 1)).map (fun j => (byteAt l j : Int))
theorem pkz_len (l : List Bool) : (pkz l).length = l.length / 8 + 1 := by simp [pkz]
theorem pkz_of (l : List Bool) (h : l.length % 8 ≠ 0) : pk l = pkz l := by
  unfold pk pkz
  rw [show (l.length + 7) / 8 = l.length / 8 + 1 by omega]
theorem byteAt_end (l : List Bool) (j : Nat) (h : l.length ≤ 8 * j) : byteAt l j = 0 := by
  unfold byteAt
  rw [List.drop_eq_nil_of_le h]; simp [num]
theorem pkz_new (l : List Bool) (h : l.length % 8 = 0) : pk l ++ [0] = pkz l := by
  unfold pk pkz
  rw [show (l.length + 7) / 8 = l.length / 8 by omega, List.range_succ, List.map_append]
  simp [byteAt_end l (l.length / 8) (by omega)]
theorem byteAt_form (l : List Bool) : ∃ x : Nat, byteAt l (l.length / 8) = x * 2 ^ (8 - l.length % 8) := by
  refine ⟨num ((l.drop (8 * (l.length / 8))).take 8), ?_⟩
  unfold byteAt
  congr 2
  simp; omega
theorem pk_set (l m : List Bool) (h0 : 0 < m.length) (h : l.length % 8 + m.length ≤ 8) : (pkz l).set (l.length / 8) (byteAt (l ++ m) (l.length / 8) : Int) = pk (l ++ m) := by
  apply List.ext_getElem
  · rw [List.length_set, pkz_len, pk_len, List.length_append]; omega
  · intro j h1 h2
    rw [List.length_set, pkz_len] at h1
    rw [List.getElem_set]
    by_cases hj : l.length / 8 = j
    · subst hj
      rw [if_pos rfl]; simp [pk]
    · rw [if_neg hj]
      simp only [pk, pkz, List.getElem_map, List.getElem_range]
      rw [byteAt_same l m j (by omega)]
theorem put_byte {l : List Bool} {v r k : Nat} (hk : k = min (8 - l.length % 8) r) (hv : v < 18446744073709551616) (hr : r ≤ 64) (hr0 : 0 < r) :
    ibits .or .u8 (byteAt l (l.length / 8) : Int) (ishl .u8 (ibits .and .u8 (IntKind.u8.wrap (ishr .u64 (v : Int) ((r - k : Nat) : Int))) (IntKind.u8.wrap (ishl .u8 1 (k : Int) - 1))) ((8 - l.length % 8 - k : Nat) : Int)) = (byteAt (l ++ bo (v / 2 ^ (r - k)) k) (l.length / 8) : Int) := by
  have hk8 : k ≤ 8 := by omega
  have hkr : k ≤ 8 - l.length % 8 := by omega
  rw [shr_u64 (by omega), wm_u8, show (((v / 2 ^ (r - k) : Nat) : Int) % 256) = ((v / 2 ^ (r - k) % 256 : Nat) : Int) by omega, mask_u8 (Nat.mod_lt _ (by omega)) hk8]
  have e1 : v / 2 ^ (r - k) % 256 % 2 ^ k = v / 2 ^ (r - k) % 2 ^ k := by
    rw [show (256 : Nat) = 2 ^ k * 2 ^ (8 - k) by rw [← Nat.pow_add, Nat.add_sub_cancel' hk8], Nat.mod_mul_right_mod]
  rw [e1]
  have hp : v / 2 ^ (r - k) % 2 ^ k < 2 ^ k := Nat.mod_lt _ (Nat.two_pow_pos k)
  have hnum := num_bo (v / 2 ^ (r - k)) k
  have hba := byteAt_append l (bo (v / 2 ^ (r - k)) k) (l.length / 8) (by omega) (by rw [bo_len]; omega)
  rw [hnum, bo_len, show 8 * (l.length / 8) + 8 - l.length - k = 8 - l.length % 8 - k by omega] at hba
  rw [hba]
  generalize v / 2 ^ (r - k) % 2 ^ k = part at hp ⊢
  obtain ⟨x, hx⟩ := byteAt_form l
  have hlt := byteAt_lt l (l.length / 8)
  have hroom : part * 2 ^ (8 - l.length % 8 - k) < 2 ^ (8 - l.length % 8) := by
    have := Nat.mul_lt_mul_of_pos_right hp (Nat.two_pow_pos (8 - l.length % 8 - k))
    rw [← Nat.pow_add, show k + (8 - l.length % 8 - k) = 8 - l.length % 8 by omega] at this
    exact this
  have h256 : 2 ^ (8 - l.length % 8) ≤ 2 ^ 8 := Nat.pow_le_pow_right (by omega) (by omega)
  rw [shl_u8 (by omega) (by omega), hx, or_u8 (by omega) (by omega) hroom]
/-- Put, with r bits still to come -/
theorem put_row (l : List Bool) (v N r k : Nat) (hr : r ≤ N) (hk : k ≤ r) : l ++ bo (v / 2 ^ r) (N - r) ++ bo (v / 2 ^ (r - k)) k = l ++ bo (v / 2 ^ (r - k)) (N - (r - k)) := by
  have := bo_append (v / 2 ^ (r - k)) (N - (r - k)) (N - r) (by omega)
  rw [this, Nat.div_div_eq_div_mul, ← Nat.pow_add, show r - k + (N - (r - k) - (N - r)) = r by omega, show N - (r - k) - (N - r) = k by omega, List.append_assoc]
end Go.Proofs.Ythhcaaellhdkiaa
