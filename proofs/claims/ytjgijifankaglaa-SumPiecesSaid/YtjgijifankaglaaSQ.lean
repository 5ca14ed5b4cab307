/- begin, of a hash that has not begun. -/
import Derived.Test.YtjgijifankaglaaSO
namespace Go.Proofs.Ytjgijifankaglaa
open Go Go.RowKit Go.Proofs.Ytjgijifankaglaa.SX
set_option linter.unusedVariables false

theorem start_fin : ∀ i : Fin 8, ((beh (PR.getD i.val 0) 2 : Nat) : Int) = S8.start.at i.val := by decide +kernel
theorem key_fin : ∀ i : Fin 64, ((beh (PR.getD i.val 0) 3 : Nat) : Int) = KR i.val := by decide +kernel
theorem PR_le : ∀ p ∈ PR, p ≤ 311 := by
  unfold PR
  exact fun p hp => (pst_two 310 p hp).2
theorem start_at (i : Nat) (hi : i < 8) : ((beh (PR.getD i 0) 2 : Nat) : Int) = S8.start.at i := start_fin ⟨i, hi⟩
theorem key_at (i : Nat) (hi : i < 64) : ((beh (PR.getD i 0) 3 : Nat) : Int) = KR i := key_fin ⟨i, hi⟩
def Hi (w : World) (g a b : Nat) (rest : Sl) (n : Int) : Prop := ∃ cs, w.heap[g]? = some (.cells cs 98 (0, 0)) ∧ cs.size = 74 ∧ (∀ j, j < 8 → j < a → cs[j]? = some (.int .u32 (S8.start.at j))) ∧ (∀ j, j < 64 → j < b → cs[8 + j]? = some (.int .u32 (KR j))) ∧ cs[72]? = some (.slice rest.a rest.n rest.c) ∧ cs[73]? = some (.int .u64 n)
theorem Hi.gr {w w' : World} {g a b : Nat} {rest : Sl} {n : Int} {S : Nat → Prop} (hr : Hi w g a b rest n) (q : Gr S w w') (hn : ¬ S g) : Hi w' g a b rest n := by
  obtain ⟨cs, h1, h2⟩ := hr
  exact ⟨cs, q.blk h1 hn, h2⟩
theorem Hi.has {w : World} {g a b : Nat} {rest : Sl} {n : Int} (hr : Hi w g a b rest n) {j : Nat} (hj : j < 74) : HasCell w ⟨g, j, none⟩ := by
  obtain ⟨cs, h1, h2, _⟩ := hr
  exact row_has h1 (by omega)
theorem Hi.seth {w w' : World} {g a b : Nat} {rest : Sl} {n : Int} (hr : Hi w g a b rest n) (ha : a < 8) (e : w' = w.setCell ⟨g, a, none⟩ (.int .u32 (S8.start.at a))) : Hi w' g (a + 1) b rest n ∧ Gr (fun k => k = g) w w' := by
  obtain ⟨cs, h1, h2, h3, h4, h5, h6⟩ := hr
  refine ⟨⟨_, by rw [e]; exact row_set h1 _, by simpa using h2, fun j hj hja => ?_, fun j hj hjb => ?_, ?_, ?_⟩, by rw [e]; exact gr_set w ⟨g, a, none⟩ _⟩
  · by_cases hja' : j = a
    · subst hja'; rw [Array.getElem?_setIfInBounds_self_of_lt (by omega)]
    · rw [Array.getElem?_setIfInBounds_ne (by omega)]; exact h3 j hj (by omega)
  · rw [Array.getElem?_setIfInBounds_ne (by omega)]; exact h4 j hj hjb
  · rw [Array.getElem?_setIfInBounds_ne (by omega)]; exact h5
  · rw [Array.getElem?_setIfInBounds_ne (by omega)]; exact h6
theorem Hi.setk {w w' : World} {g a b : Nat} {rest : Sl} {n : Int} (hr : Hi w g a b rest n) (hb : b < 64) (e : w' = w.setCell ⟨g, 8 + b, none⟩ (.int .u32 (KR b))) : Hi w' g a (b + 1) rest n ∧ Gr (fun k => k = g) w w' := by
  obtain ⟨cs, h1, h2, h3, h4, h5, h6⟩ := hr
  refine ⟨⟨_, by rw [e]; exact row_set h1 _, by simpa using h2, fun j hj hja => ?_, fun j hj hjb => ?_, ?_, ?_⟩, by rw [e]; exact gr_set w ⟨g, 8 + b, none⟩ _⟩
  · rw [Array.getElem?_setIfInBounds_ne (by omega)]; exact h3 j hj hja
  · by_cases hjb' : j = b
    · subst hjb'; rw [Array.getElem?_setIfInBounds_self_of_lt (by omega)]
    · rw [Array.getElem?_setIfInBounds_ne (by omega)]; exact h4 j hj (by omega)
  · rw [Array.getElem?_setIfInBounds_ne (by omega)]; exact h5
  · rw [Array.getElem?_setIfInBounds_ne (by omega)]; exact h6
theorem C78_off {w : World} {g : Nat} {h : Nat → Int} {rest : Sl} {n : Int} (hr : Hrow w g h (fun _ => 0) rest n) : Calls Try.prog 78 #[.pointer (some ⟨g, 0, none⟩)] w (fun e w1 => e = .returned (.tuple #[]) ∧ (Hrow w1 g S8.start.at KR rest n ∧ Gr (fun k => k = g) w w1)) := by
  refine F78_sound (some ⟨g, 0, none⟩) (fun w1 => Hrow w1 g S8.start.at KR rest n ∧ Gr (fun k => k = g) w w1) w ?_
  unfold F78
  obtain ⟨cs, h1, h2, h3, h4, h5, h6⟩ := hr
  have hg := row_lt h1
  have hload := rn_loadcells (P := Try.prog) (w := w) (T := 96) (a := (⟨g, 0, none⟩ : Addr).add 8) (k := 64) (cs := List.replicate 64 (Value.int .u32 0)) ⟨by kernel_rfl, by kernel_rfl⟩ rfl (cellsAt_of _ _ (fun j hj => by
    have hj2 : j < 64 := by simpa using hj
    rw [Nat.zero_add, add2, row_get h1, h4 j hj2, List.getElem?_replicate, if_pos hj2]))
  refine ⟨_, rfl, .agg (List.replicate 64 (Value.int .u32 0)).toArray, hload, .agg #[.int .u32 0, .int .u32 0, .int .u32 0, .int .u32 0, .int .u32 0, .int .u32 0, .int .u32 0, .int .u32 0, .int .u32 0, .int .u32 0, .int .u32 0, .int .u32 0, .int .u32 0, .int .u32 0, .int .u32 0, .int .u32 0, .int .u32 0, .int .u32 0, .int .u32 0, .int .u32 0, .int .u32 0, .int .u32 0, .int .u32 0, .int .u32 0, .int .u32 0, .int .u32 0, .int .u32 0, .int .u32 0, .int .u32 0, .int .u32 0, .int .u32 0, .int .u32 0, .int .u32 0, .int .u32 0, .int .u32 0, .int .u32 0, .int .u32 0, .int .u32 0, .int .u32 0, .int .u32 0, .int .u32 0, .int .u32 0, .int .u32 0, .int .u32 0, .int .u32 0, .int .u32 0, .int .u32 0, .int .u32 0, .int .u32 0, .int .u32 0, .int .u32 0, .int .u32 0, .int .u32 0, .int .u32 0, .int .u32 0, .int .u32 0, .int .u32 0, .int .u32 0, .int .u32 0, .int .u32 0, .int .u32 0, .int .u32 0, .int .u32 0, .int .u32 0], by kernel_rfl, false, by kernel_rfl, (fun h => nomatch h), fun _ => ?_⟩
  refine (C97 w).mono ?_
  rintro _ w7 ⟨sp, rfl, op, b7⟩
  refine ⟨_, rfl, ?_⟩
  have q7 := Gr.below (S := fun k => k = g) b7
  have hi0 : Hi w7 g 0 0 rest n := ⟨cs, b7.block g hg ▸ h1, h2, fun j _ hj => by omega, fun j _ hj => by omega, h5, h6⟩
  have hspl := op.len
  rw [ints_len, PR_len] at hspl
  have hlen := PR_len
  have hle := PR_le
  have hst0 := start_at
  have hky0 := key_at
  generalize PR = P at op hlen hle hst0 hky0
  refine ⟨fun st wr => ∃ i : Nat, st = (i : Int) ∧ i ≤ 64 ∧ Gr (fun k => k = g) w wr ∧ Own E8 87 w.heap.size wr sp (ints P) ∧ Hi wr g i i rest n, fun st _ => (64 - st).toNat, ⟨0, rfl, by omega, q7, op, hi0⟩, ?_⟩
  rintro _ wr ⟨i, rfl, hi, hq, op, hH⟩
  unfold F78_l1
  refine ⟨fun hlt => ?_, fun hge => ?_⟩
  · have hi64 : i < 64 := by omega
    obtain ⟨a, ha, hc⟩ := op.rd.at i (by rw [ints_len, hlen]; exact hi64)
    rw [ints_at] at hc
    have hiP : i < P.length := by rw [hlen]; exact hi64
    have hp := hle P[i] (List.getElem_mem hiP)
    have hgd : P.getD i 0 = P[i] := by rw [List.getD_eq_getElem?_getD, List.getElem?_eq_getElem hiP]; rfl
    have hkey := hky0 i hi64
    rw [hgd] at hkey
    generalize P[i] = pp at *
    have j2 : ∀ (x : World) (a' : Nat), (i < 8 → a' = i + 1) → (¬ i < 8 → a' = i) → Gr (fun k => k = g) w x → Own E8 87 w.heap.size x sp (ints P) → Hi x g a' i rest n → F78_j2 (some ⟨g, 0, none⟩) (i : Int) (fun s' w' => (∃ i : Nat, s' = (i : Int) ∧ i ≤ 64 ∧ Gr (fun k => k = g) w w' ∧ Own E8 87 w.heap.size w' sp (ints P) ∧ Hi w' g i i rest n) ∧ (64 - s').toNat < (64 - (i : Int)).toNat) ((pp : Nat) : Int) x := by
      intro x a' ha1 ha2 hq op hH
      unfold F78_j2
      intro w18 hm
      have bq : Below x.heap.size x w18 := by rw [hm]; exact below_draw (Below.refl _ _) 1
      clear hm
      refine ⟨_, rfl, (C98 pp 3 w18 (by omega) (.inr rfl)).mono ?_⟩
      rintro _ w21 ⟨_, rfl, rfl, b21⟩
      have bq := bq.trans (b21.mono bq.size)
      have q0 := Gr.below (S := fun _ => False) bq
      have hH := hH.gr q0 (fun h => h)
      have op := op.below bq
      have hq := hq.trans (Gr.below (S := fun k => k = g) bq) (fun i _ hi => hi)
      rw [Int.toNat_natCast, add2, hkey]
      refine ⟨_, rfl, by omega, by omega, hH.has (by omega), ?_⟩
      intro w22 e
      obtain ⟨hH2, q⟩ := hH.setk hi64 e
      have op2 := q.own op (fun k hk hk2 => by have := (op.blk_ge k hk).1; (try dsimp only at hk2); omega)
      rw [w_i64 (by omega) (by omega)]
      refine ⟨⟨i + 1, by omega, by omega, hq.trans q (fun i _ hi => hi), op2, ?_⟩, by omega⟩
      by_cases h8 : i < 8
      · rw [← ha1 h8]; exact (ha1 h8) ▸ hH2
      · obtain ⟨cs, c1, c2, c3, c4⟩ := hH2
        exact ⟨cs, c1, c2, fun j hj _ => c3 j hj (by rw [ha2 h8]; omega), c4⟩
    refine ⟨by omega, hlt, a, ha, _, hc, fun h8 => ?_, fun h8 => ?_⟩
    · have h8' : i < 8 := by omega
      have hst := hst0 i h8'
      rw [hgd] at hst
      intro w12 hm
      have bq : Below wr.heap.size wr w12 := by rw [hm]; exact below_draw (Below.refl _ _) 1
      clear hm
      refine ⟨_, rfl, (C98 pp 2 w12 (by omega) (.inl rfl)).mono ?_⟩
      rintro _ w15 ⟨_, rfl, rfl, b15⟩
      have bq := bq.trans (b15.mono bq.size)
      have q0 := Gr.below (S := fun _ => False) bq
      have hH := hH.gr q0 (fun h => h)
      have op := op.below bq
      have hq := hq.trans (Gr.below (S := fun k => k = g) bq) (fun i _ hi => hi)
      rw [Int.toNat_natCast, add_lit, hst]
      refine ⟨_, rfl, by omega, by omega, hH.has (by omega), ?_⟩
      intro w16 e
      obtain ⟨hH2, q⟩ := hH.seth h8' e
      have op2 := q.own op (fun k hk hk2 => by have := (op.blk_ge k hk).1; (try dsimp only at hk2); omega)
      exact j2 w16 (i + 1) (fun _ => rfl) (fun h => absurd h8' h) (hq.trans q (fun i _ hi => hi)) op2 hH2
    · exact j2 wr i (fun h => absurd (by omega) h8) (fun _ => rfl) hq op hH
  · have hi64 : i = 64 := by omega
    subst hi64
    obtain ⟨cs, c1, c2, c3, c4, c5, c6⟩ := hH
    exact ⟨⟨cs, c1, c2, fun j hj => c3 j hj (by omega), fun j hj => c4 j hj hj, c5, c6⟩, hq⟩
end Go.Proofs.Ytjgijifankaglaa
