/- sum.primes, and the numbers that come of them. -/
import Derived.Test.YtjgijifankaglaaSJ
namespace Go.Proofs.Ytjgijifankaglaa
open Go Go.RowKit Go.Proofs.Ytjgijifankaglaa.SX
set_option linter.unusedVariables false

def ints (l : List Nat) : List Int := l.map fun (n : Nat) => (n : Int)
theorem ints_len (l : List Nat) : (ints l).length = l.length := by unfold ints; simp
theorem ints_at (l : List Nat) {i : Nat} (h : i < (ints l).length) : (ints l)[i] = ((l[i]'(by rw [← ints_len]; exact h) : Nat) : Int) := by exact List.getElem_map (fun (n : Nat) => (n : Int))
theorem C97 (w : World) : Calls Try.prog 97 #[.int .i64 64] w (fun e w1 => ∃ (r0 : Sl), e = .returned (.slice r0.a r0.n r0.c) ∧ (Own E8 87 w.heap.size w1 r0 (ints PR) ∧ Below w.heap.size w w1)) := by
  refine F97_sound 64 (fun r0 w1 => Own E8 87 w.heap.size w1 r0 (ints PR) ∧ Below w.heap.size w w1) w ?_
  unfold F97
  refine ⟨fun st wr => ∃ t : Nat, st.2 = (t : Int) + 2 ∧ t ≤ 310 ∧ Own E8 87 w.heap.size wr st.1 (ints (pst t)) ∧ Below w.heap.size w wr, fun st _ => (312 - st.2).toNat, ⟨0, rfl, by omega, Own.nil, Below.refl _ _⟩, ?_⟩
  rintro ⟨l, _⟩ wr ⟨t, rfl, ht, ho, hb⟩
  dsimp only at ho
  have hl := ho.len
  rw [ints_len] at hl
  have p310 := pr_310
  have p309 := pr_309
  unfold F97_l1
  refine ⟨fun hlt => ?_, fun hge => ?_⟩
  · have ht3 : t < 310 := by
      rcases Nat.lt_or_ge t 310 with h | h
      · exact h
      · have : t = 310 := by omega
        subst this; omega
    refine ⟨fun st wq => wq = wr ∧ ∃ i : Nat, st = (i : Int) ∧ i ≤ (pst t).length ∧ ∀ j (hj : j < (pst t).length), j < i → (t + 2) % (pst t)[j] ≠ 0, fun st _ => ((pst t).length - st).toNat, ⟨rfl, 0, rfl, by omega, fun j _ h => by omega⟩, ?_⟩
    rintro _ wr ⟨rfl, i, rfl, hi, hno⟩
    unfold F97_l2 F97_j3
    refine ⟨fun hil => ?_, fun hil => ?_⟩
    · have hi2 : i < (pst t).length := by omega
      obtain ⟨a, ha, hc⟩ := ho.rd.at i (by rw [ints_len]; exact hi2)
      rw [ints_at] at hc
      have hp := pst_two t (pst t)[i] (List.getElem_mem hi2)
      refine ⟨by omega, hil, a, ha, _, hc, by omega, fun h0 => ?_, fun h0 => ?_⟩
      · have hmod : (t + 2) % (pst t)[i] = 0 := by
          rw [show ((t : Int) + 2) = ((t + 2 : Nat) : Int) by omega, ← Int.ofNat_tmod] at h0
          exact_mod_cast h0
        have hs : pst (t + 1) = pst t := by
          rw [pst]; unfold pstep
          rw [if_pos (List.any_eq_true.2 ⟨_, List.getElem_mem hi2, by simp [hmod]⟩)]
        rw [w_u64 (by omega) (by omega)]
        exact ⟨⟨t + 1, by (try dsimp only); omega, by omega, by rw [hs]; exact ho, hb⟩, by (try dsimp only); omega⟩
      · rw [w_i64 (by omega) (by omega)]
        refine ⟨⟨rfl, i + 1, by omega, by omega, fun j hj hji => ?_⟩, by (try dsimp only); omega⟩
        by_cases hjj : j = i
        · subst hjj
          intro hm
          apply h0
          rw [show ((t : Int) + 2) = ((t + 2 : Nat) : Int) by omega, ← Int.ofNat_tmod, hm]; rfl
        · exact hno j hj (by omega)
    · have hs : pst (t + 1) = pst t ++ [t + 2] := by
        rw [pst]; unfold pstep
        rw [if_neg]
        intro h
        obtain ⟨p, hp, hm⟩ := List.any_eq_true.1 h
        obtain ⟨j, hj, rfl⟩ := List.mem_iff_getElem.1 hp
        exact hno j hj (by omega) (by simpa using hm)
      rintro _ rfl
      obtain ⟨s2, w2, h1, h2⟩ := ap_one (ty := 141) (w := wr) tyP e8one ho ((t : Int) + 2) hb.size (by rw [ints_len]; omega)
      refine ⟨s2, w2, h1, ?_⟩
      rw [w_u64 (by omega) (by omega)]
      have e : ints (pst (t + 1)) = ints (pst t) ++ [(t : Int) + 2] := by rw [hs]; unfold ints; simp
      exact ⟨⟨t + 1, by (try dsimp only); omega, by omega, by rw [e]; exact h2.own, h2.below ho hb.size hb⟩, by (try dsimp only); omega⟩
  · have h9 : ¬ t ≤ 309 := by
      intro h
      have := pst_le h
      omega
    have : t = 310 := by omega
    subst this
    exact ⟨ho, hb⟩
theorem PR_len : PR.length = 64 := pr_310
theorem keys : ints (PR.map fun p => beh p 3) = KL := by decide +kernel
theorem starts : ints ((PR.take 8).map fun p => beh p 2) = [1779033703, 3144134277, 1013904242, 2773480762, 1359893119, 2600822924, 528734635, 1541459225] := by decide +kernel
end Go.Proofs.Ytjgijifankaglaa
