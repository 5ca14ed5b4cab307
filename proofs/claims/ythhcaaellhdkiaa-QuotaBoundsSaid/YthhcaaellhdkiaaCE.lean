/- The reader of package bits: Get. -/
import Derived.Test.YthhcaaellhdkiaaCD
namespace Go.Proofs.Ythhcaaellhdkiaa
open Go Go.RowKit Go.Proofs.Ythhcaaellhdkiaa.SX
set_option linter.unusedVariables false

/-- what Get tells, and where the reader stands behind it -/
def rget (L : List Bool) (A : Nat) (n : Int) : Nat × Bool × Nat := if 0 ≤ n ∧ n ≤ 64 ∧ n ≤ (L.length : Int) - A then (num ((L.drop A).take n.toNat), true, A + n.toNat) else (0, false, A)

theorem get_byte {x left k : Nat} (hx : x < 256) (hl : left ≤ 8) (hk : k ≤ left) {v : Nat} (hv : v * 2 ^ k < 18446744073709551616) :
    ibits .or .u64 (ishl .u64 (v : Int) (k : Int)) (IntKind.u64.wrap (ibits .and .u8 (ishr .u8 (x : Int) ((left - k : Nat) : Int)) (IntKind.u8.wrap (ishl .u8 1 (k : Int) - 1)))) = ((v * 2 ^ k + num (bo (x / 2 ^ (left - k)) k) : Nat) : Int) := by
  have h1 : x / 2 ^ (left - k) < 256 := Nat.lt_of_le_of_lt (Nat.div_le_self _ _) hx
  have h2 : x / 2 ^ (left - k) % 2 ^ k < 2 ^ k := Nat.mod_lt _ (Nat.two_pow_pos k)
  have h3 : x / 2 ^ (left - k) % 2 ^ k < 256 := Nat.lt_of_le_of_lt (Nat.mod_le _ _) h1
  rw [shr_u8 (by omega), mask_u8 h1 (by omega), w_u64 (by omega) (by omega), shl_u64 (by omega) hv, or_u64 (by omega) hv h2, num_bo]
theorem take_add (L : List Bool) (A i k : Nat) : (L.drop A).take (i + k) = (L.drop A).take i ++ (L.drop (A + i)).take k := by
  rw [List.take_add, List.drop_drop]
theorem C39 {w : World} {o : Addr} {s : Sl} {A : Nat} {xs : List Int} {fp : Nat → Prop} {n : Int} (h : Wz w o s (A : Int) xs fp) (hb : bys xs) (hA : A ≤ 8 * xs.length) (hl : xs.length ≤ 140737488355328) :
    Calls Try.prog 39 #[.pointer (some o), .int .i64 n] w (fun e w1 => ∃ (r0 : Int), ∃ (r1 : Bool), e = .returned (.tuple #[.int .u64 r0, .bool r1] : Value) ∧ (r0 = (rget (unp xs) A n).1 ∧ r1 = (rget (unp xs) A n).2.1 ∧ Wz w1 o s ((rget (unp xs) A n).2.2 : Int) xs fp ∧ Gr fp w w1)) := by
  refine F39_sound (some o) n (fun r0 r1 w1 => r0 = (rget (unp xs) A n).1 ∧ r1 = (rget (unp xs) A n).2.1 ∧ Wz w1 o s ((rget (unp xs) A n).2.2 : Int) xs fp ∧ Gr fp w w1) w ?_
  unfold F39
  have hul := unp_len xs
  have hbad : ∀ wr, (¬ (0 ≤ n ∧ n ≤ 64 ∧ n ≤ ((unp xs).length : Int) - A)) → Wz wr o s (A : Int) xs fp → Gr fp w wr → 0 = ((rget (unp xs) A n).1 : Int) ∧ false = (rget (unp xs) A n).2.1 ∧ Wz wr o s ((rget (unp xs) A n).2.2 : Int) xs fp ∧ Gr fp w wr := by
    intro wr hz hw hg
    unfold rget; rw [if_neg hz]
    exact ⟨rfl, rfl, hw, hg⟩
  refine ⟨fun h0 => hbad w (by omega) h (Gr.refl _ _), fun h0 => ⟨fun h64 => hbad w (by omega) h (Gr.refl _ _), fun h64 => ?_⟩⟩
  refine (C41 h (by omega) (by omega) hl).mono ?_
  rintro _ w4 ⟨_, rfl, rfl, m, rfl⟩
  have hg4 : Gr fp w (w.drewN m) := gr_drewN (Gr.refl _ _) m
  have h4 : Wz (w.drewN m) o s (A : Int) xs fp := h.keep (S := fun _ => False) (gr_drewN (Gr.refl _ _) m) (fun _ _ h => h)
  refine ⟨_, rfl, fun hle => hbad _ (by omega) h4 hg4, fun hle => ?_⟩
  have hok : 0 ≤ n ∧ n ≤ 64 ∧ n ≤ ((unp xs).length : Int) - A := by omega
  obtain ⟨N, rfl⟩ : ∃ N : Nat, n = N := ⟨n.toNat, by omega⟩
  unfold rget
  rw [if_pos hok]
  simp only [Int.toNat_natCast]
  have hlen : ∀ i, i ≤ N → (((unp xs).drop A).take i).length = i := by intro i hi; rw [List.length_take, List.length_drop]; omega
  refine ⟨fun st wr => ∃ i : Nat, i ≤ N ∧ st = (((N - i : Nat) : Int), ((num (((unp xs).drop A).take i) : Nat) : Int)) ∧ Wz wr o s ((A + i : Nat) : Int) xs fp ∧ Gr fp w wr, fun st _ => st.1.toNat, ⟨0, by omega, by simp [num], by simpa using h4, hg4⟩, ?_⟩
  rintro _ wr ⟨i, hi, rfl, hz, hg⟩
  unfold F39_l1
  refine ⟨fun hpos => ?_, fun hpos => ?_⟩
  · have hleft : IntKind.i64.wrap (8 - Int.tmod ((A + i : Nat) : Int) 8) = ((8 - (A + i) % 8 : Nat) : Int) := by
      rw [tm (by omega), w_i64 (by omega) (by omega)]; omega
    generalize hk : min (8 - (A + i) % 8) (N - i) = k
    have hkk : (if ((N - i : Nat) : Int) < ((8 - (A + i) % 8 : Nat) : Int) then ((N - i : Nat) : Int) else ((8 - (A + i) % 8 : Nat) : Int)) = (k : Int) := by split <;> omega
    have hix : (A + i) / 8 < xs.length := by omega
    have hdiv : IntKind.i64.wrap (Int.tdiv ((A + i : Nat) : Int) 8) = (((A + i) / 8 : Nat) : Int) := by
      rw [td (by omega), w_i64 (by omega) (by omega)]; rfl
    obtain ⟨a, ha, hcell⟩ := hz.own.rd.at ((A + i) / 8) hix
    have hx := hb xs[(A + i) / 8] (List.getElem_mem hix)
    have hsn := hz.own.len
    refine ⟨o, rfl, _, hz.c1, o, rfl, s, hz.c0, o, rfl, _, hz.c1, ?_⟩
    simp only [hleft, hkk, hdiv, Int.toNat_natCast]
    refine ⟨by omega, by omega, a, ha, _, hcell, ?_⟩
    rw [w_i64 (n := ((8 - (A + i) % 8 : Nat) : Int) - k) (by omega) (by omega), w_i64 (n := ((N - i : Nat) : Int) - k) (by omega) (by omega)]
    refine ⟨by omega, by omega, ?_⟩
    rintro _ ⟨mm, rfl⟩
    have hz' : Wz (wr.drewN mm) o s ((A + i : Nat) : Int) xs fp := hz.keep (S := fun _ => False) (gr_drewN (Gr.refl _ _) mm) (fun _ _ h => h)
    obtain ⟨hc, z2, g2⟩ := hz'.count ((A + i + k : Nat) : Int)
    refine ⟨by omega, o, rfl, _, hz'.c1, o, rfl, hc, ?_⟩
    rw [w_i64 (n := ((A + i : Nat) : Int) + k) (by omega) (by omega), show ((A + i : Nat) : Int) + k = ((A + i + k : Nat) : Int) by omega]
    rintro _ rfl
    refine ⟨⟨i + k, by omega, ?_, by rw [show A + (i + k) = A + i + k by omega]; exact z2, (gr_drewN hg mm).trans g2 (fun _ _ h => h)⟩, by show (((N - i : Nat) : Int) - k).toNat < (((N - i : Nat) : Int)).toNat; omega⟩
    refine Prod.ext (by show ((N - i : Nat) : Int) - k = ((N - (i + k) : Nat) : Int); omega) ?_
    show _ = ((num (((unp xs).drop A).take (i + k)) : Nat) : Int)
    have hmid := unp_mid (xs := xs) (at_ := A + i) (k := k) hix (by omega)
    rw [take_add, hmid, num_append, bo_len]
    have hlt := num_lt (((unp xs).drop A).take i)
    rw [hlen i hi] at hlt
    have hv : num (((unp xs).drop A).take i) * 2 ^ k < 18446744073709551616 := by
      have h1 := Nat.mul_lt_mul_of_pos_right hlt (Nat.two_pow_pos k)
      rw [← Nat.pow_add] at h1
      have h2 : 2 ^ (i + k) ≤ 2 ^ 64 := Nat.pow_le_pow_right (by omega) (by omega)
      omega
    have hgb := get_byte (x := (xs[(A + i) / 8]).toNat) (left := 8 - (A + i) % 8) (k := k) (by omega) (by omega) (by omega) hv
    rw [Int.toNat_of_nonneg hx.1, show ((8 - (A + i) % 8 - k : Nat) : Int) = ((8 - (A + i) % 8 : Nat) : Int) - k by omega] at hgb
    exact hgb
  · have : i = N := by omega
    subst this
    exact ⟨rfl, rfl, hz, hg⟩
end Go.Proofs.Ythhcaaellhdkiaa
