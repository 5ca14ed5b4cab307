/- The writer of package bits: Cut. -/
import Derived.Test.YthhcaaellhdkiaaCA
namespace Go.Proofs.Ythhcaaellhdkiaa
open Go Go.RowKit Go.Proofs.Ythhcaaellhdkiaa.SX
set_option linter.unusedVariables false

theorem pk_cut_full (l : List Bool) (n : Nat) (hn : n ≤ l.length) (h8 : n % 8 = 0) : (pk l).take ((n + 7) / 8) = pk (l.take n) := by
  unfold pk
  rw [← List.map_take, List.take_range, List.length_take, Nat.min_eq_left hn, Nat.min_eq_left (by omega)]
  apply List.map_congr_left
  intro j hj
  simp only [List.mem_range] at hj
  congr 1
  have := byteAt_same (l.take n) (l.drop n) j (by simp; omega)
  rwa [List.take_append_drop] at this
theorem pk_cut_part (l : List Bool) (n : Nat) (hn : n ≤ l.length) (h8 : n % 8 ≠ 0) : ((pk l).take ((n + 7) / 8)).set (n / 8) (byteAt l (n / 8) / 2 ^ (8 - n % 8) * 2 ^ (8 - n % 8) : Nat) = pk (l.take n) := by
  apply List.ext_getElem
  · simp [pk_len]; omega
  · intro j h1 h2
    simp [pk_len] at h1 h2
    rw [List.getElem_set]
    by_cases hj : n / 8 = j
    · subst hj
      rw [if_pos rfl]
      simp only [pk, List.getElem_map, List.getElem_range]
      rw [cut_byte hn h8]
    · rw [if_neg hj]
      simp only [pk, List.getElem_take, List.getElem_map, List.getElem_range]
      congr 1
      have := byteAt_same (l.take n) (l.drop n) j (by simp; omega)
      rwa [List.take_append_drop] at this
theorem C45 {w : World} {o : Addr} {l : List Bool} {fp : Nat → Prop} {n : Int} (h : Wr w o l fp) (hl : l.length ≤ 1000000) (hn : n ≤ 9223372036854775807) :
    Calls Try.prog 45 #[.pointer (some o), .int .i64 n] w (fun e w1 => e = .returned (.tuple #[] : Value) ∧ (Wr w1 o (l.take n.toNat) fp ∧ Gr fp w w1)) := by
  refine F45_sound (some o) n (fun w1 => Wr w1 o (l.take n.toNat) fp ∧ Gr fp w w1) w ?_
  unfold F45
  obtain ⟨s, z⟩ := wr_iff.1 h
  have hN : (if 0 > n then 0 else n) = (n.toNat : Int) := by split <;> omega
  rw [hN]
  generalize n.toNat = N at hN ⊢
  refine ⟨o, rfl, _, z.c1, fun hge => ?_, fun hlt => ?_⟩
  · rw [List.take_of_length_le (by omega)]; exact ⟨h, Gr.refl _ _⟩
  · have hNl : N < l.length := by omega
    have hw8 : IntKind.i64.wrap (Int.tdiv (IntKind.i64.wrap ((N : Int) + 7)) 8) = (((N + 7) / 8 : Nat) : Int) := by
      rw [w_i64 (n := (N : Int) + 7) (by omega) (by omega), td (by omega), w_i64 (by omega) (by omega)]; omega
    simp only [hw8]
    obtain ⟨t, v, w1, hcut, hclr, ⟨ys, oy, hyl, hyt⟩, hg1⟩ := clear_own z.own ((N + 7) / 8) (by rw [pk_len]; omega) (by rw [pk_len]; omega)
    obtain ⟨z1, g1⟩ := z.within hg1 oy
    rw [pk_len] at hyl
    refine ⟨o, rfl, s, z.c0, t, hcut w, v, w1, hclr, o, rfl, s, z1.c0, ⟨s.a, (N + 7) / 8, s.c⟩, cut_hi ty22 s _ _ rfl (by show (N + 7) / 8 ≤ s.c; have := z1.own.len; have := z1.own.rd.2.1; omega), o, rfl, ?_⟩
    obtain ⟨hc2, z2, g2⟩ := z1.cutTo ((N + 7) / 8) (by omega)
    refine ⟨hc2, ?_⟩
    rintro _ rfl
    obtain ⟨hc3, z3, g3⟩ := z2.count (N : Int)
    refine ⟨o, rfl, hc3, ?_⟩
    rintro _ rfl
    have g123 := (g1.trans g2 (fun _ _ h => h)).trans g3 (fun _ _ h => h)
    rw [hyt] at z3
    have hlen : ((l.take N).length : Int) = N := by simp; omega
    refine ⟨fun h8 => ?_, fun h8 => ?_⟩
    · rw [tm (by omega)] at h8
      rintro _ rfl
      have z4 := z3.keep (S := fun _ => False) (gr_drewN (Gr.refl _ _) 1) (fun _ _ h => h)
      have g4 := gr_drewN g123 1
      generalize hw17 : World.drewN _ 1 = w17 at z4 g4
      have e17 : ∀ x : World, x.drew = x.drewN 1 := fun _ => rfl
      rw [e17, hw17]
      rw [w_i64 (n := (((N + 7) / 8 : Nat) : Int) - 1) (by omega) (by omega), tm (by omega), w_i64 (n := 8 - (N : Int) % 8) (by omega) (by omega)]
      have hidx : ((((N + 7) / 8 : Nat) : Int) - 1).toNat = N / 8 := by omega
      rw [hidx]
      obtain ⟨a, ha, hc5, z5, g5⟩ := z4.row (N / 8) (by rw [List.length_take, pk_len]; omega) ((byteAt l (N / 8) / 2 ^ (8 - N % 8) * 2 ^ (8 - N % 8) : Nat) : Int)
      obtain ⟨a', ha', hcell⟩ := z4.own.rd.at (N / 8) (by rw [List.length_take, pk_len]; omega)
      rw [ha] at ha'; cases ha'
      have hcell' : w17.cell? (a.add (N / 8)) = some (B8 (byteAt l (N / 8) : Int)) := by rw [hcell]; simp [pk]
      refine ⟨o, rfl, _, z4.c0, by omega, by show _ < (((N + 7) / 8 : Nat) : Int); omega, a, ha, _, hcell', by omega, by omega, by show _ < (((N + 7) / 8 : Nat) : Int); omega, a, ha, hc5, ?_⟩
      rw [show 8 - (N : Int) % 8 = ((8 - N % 8 : Nat) : Int) by omega, mask_cut (byteAt_lt _ _) (by omega)]
      rintro _ rfl
      rw [pk_cut_part l N (by omega) (by omega)] at z5
      exact ⟨wr_iff.2 ⟨_, by rw [hlen]; exact z5⟩, g4.trans g5 (fun _ _ h => h)⟩
    · rw [tm (by omega)] at h8
      rw [pk_cut_full l N (by omega) (by omega)] at z3
      exact ⟨wr_iff.2 ⟨_, by rw [hlen]; exact z3⟩, g123⟩
end Go.Proofs.Ythhcaaellhdkiaa
