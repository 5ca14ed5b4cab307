/- PostWalks, whole. -/
import Derived.Test.YtjgijifankaglaaWG
namespace Go.Proofs.Ytjgijifankaglaa
open Go Go.RowKit Go.Proofs.Ytjgijifankaglaa.SX
set_option linter.unusedVariables false

theorem F6_spec {w : World} {l : Sl} {rs : List (Sl × List Int)} {stopv : Int} (hl : Rd RV w l rs) (hr : ∀ r ∈ rs, Rd E4 w r.1 r.2) :
    Calls Try.prog 6 #[.slice l.a l.n l.c, .int .i64 stopv] w (fun e w1 => ∃ r0 : Bool, e = .returned (.bool r0 : Value) ∧ (r0 = true ∧ Below w.heap.size w w1)) := by
  refine F6_sound l stopv (fun r0 w1 => r0 = true ∧ Below w.heap.size w w1) w ?_
  unfold F6
  have hln := hl.1
  intro w3 e3
  have r3 : w3.heap[w.heap.size]? = some (.cells #[.int .i64 stopv] 3 (0, 0)) := by rw [e3]; exact heap_alloc_new w _
  have b3 : Below w.heap.size w w3 := by rw [e3]; exact below_alloc' _ _
  clear e3
  have l3 := row_lt2 r3
  intro w4 e4
  have r4 : w4.heap[w3.heap.size]? = some (.cells #[.bool false] 4 (0, 0)) := by rw [e4]; exact heap_alloc_new w3 _
  have b4 : Below w3.heap.size w3 w4 := by rw [e4]; exact below_alloc' _ _
  clear e4
  have l4 := row_lt2 r4
  have r4s : w4.heap[w.heap.size]? = some (.cells #[.int .i64 stopv] 3 (0, 0)) := by rw [b4.block _ l3]; exact r3
  have b4 := b3.trans (b4.mono (Nat.le_of_lt l3))
  refine (C13 w4).mono ?_
  rintro _ w6 ⟨_, rfl, rfl, b6⟩
  have r6s : w6.heap[w.heap.size]? = some (.cells #[.int .i64 stopv] 3 (0, 0)) := (b6.block _ (row_lt2 r4s)).trans r4s
  have r6r : w6.heap[w3.heap.size]? = some (.cells #[.bool false] 4 (0, 0)) := (b6.block _ l4).trans r4
  have b6 := b4.trans (b6.mono b4.size)
  have l6 := row_lt2 r6r
  clear r3 b3 r4 r4s b4
  refine ⟨true, rfl, ?_⟩
  refine ⟨fun st wr => ∃ (i : Nat) (ls cs : List (Sl × List Int)), st.2.2 = (i : Int) ∧ i ≤ rs.length ∧ i ≤ 9 ∧ ls.length = i ∧ Col w6.heap.size w wr st.1 st.2.1 ls cs ∧ Below w6.heap.size w6 wr, fun st _ => (rs.length - st.2.2).toNat, ⟨0, [], [], rfl, Nat.zero_le _, Nat.zero_le _, rfl, ⟨SX.Own.nil, SX.Own.nil, fun k h => (nomatch h), fun r h => (nomatch h), List.Pairwise.nil, fun r h => (nomatch h), rfl, Nat.zero_le _, fun r h => (nomatch h)⟩, Below.refl _ _⟩, ?_⟩
  rintro ⟨lists, copies, _⟩ wr ⟨i, ls, cs, rfl, hi, hi9, hli, C, hb⟩
  dsimp only at C
  unfold F6_l1
  have zb := hb.size
  have hw : Below w.heap.size w wr := b6.trans (hb.mono b6.size)
  have hrest := rest6 C hw l3 l6 zb ((hb.block _ (row_lt2 r6s)).trans r6s) ((hb.block _ l6).trans r6r)
  refine ⟨fun hlt => ⟨fun h9 => ?_, fun _ => hrest⟩, fun _ => hrest⟩
  have hin : i < rs.length := by omega
  have hm : rs[i] ∈ rs := List.getElem_mem hin
  obtain ⟨a, ha, hc⟩ := (hl.below hw).at i hin
  refine ⟨by omega, by omega, a, ha, rs[i].1, by rw [Int.toNat_natCast]; exact hc, ?_⟩
  have hri := hr _ hm
  refine (C14' (hri.below hw)).mono ?_
  rintro _ w14 ⟨t, rfl, ht, rfl⟩
  refine ⟨t, rfl, ?_⟩
  refine (C15o (ht _ (hri.below hw)) (by rw [List.length_take]; omega)).mono ?_
  rintro _ w16 ⟨u, rfl, hu, b16⟩
  refine ⟨u, rfl, ?_⟩
  have hlt4 : (rs[i].2.take 400).length ≤ 400 := by rw [List.length_take]; omega
  generalize rs[i].2.take 400 = xs at *
  have C16 := C.below b16
  have hB16 : Below w6.heap.size w6 w16 := hb.trans (b16.mono zb)
  rintro w17 rfl
  obtain ⟨s2, w19, r19, A⟩ := ap_one (P := Try.prog) (ty := 40) (enc := RV) tyR (fun _ => rfl) C16.lo (u, xs) hB16.size (by omega)
  refine ⟨s2, w19, r19, ?_⟩
  have hB19 := A.below C16.lo hB16.size hB16
  have hcl : cs.length = ls.length := by have := congrArg List.length C.eq; simpa using this
  have co19 : SX.Own RV 22 w6.heap.size w19 copies cs := own_keptne C16.co A.grown (fun k hk e => C16.ne k e.symm hk)
  rintro w20 rfl
  obtain ⟨s3, w22, r22, A2⟩ := ap_one (P := Try.prog) (ty := 40) (enc := RV) tyR (fun _ => rfl) co19 (t, xs) hB19.size (by omega)
  refine ⟨s3, w22, r22, ?_⟩
  rw [w_i64 (by omega) (by omega)]
  have lent22 : ∀ (B : Nat) (s : Sl) (ys : List Int), LentO B w16 s ys → LentO B w22 s ys := fun B s ys h =>
    (h.kept A.grown (fun k hk e => own_ne h.2 C16.lo (by decide) hk e.symm)).kept A2.grown (fun k hk e => own_ne (h.kept A.grown (fun k hk e => own_ne h.2 C16.lo (by decide) hk e.symm)).2 co19 (by decide) hk e.symm)
  have lo22 : SX.Own RV 22 w6.heap.size w22 s2 (ls ++ [(u, xs)]) := own_keptne A.own A2.grown (fun k hk e => by
    rcases A.blk with h | ⟨b, h, hge⟩
    · rw [hk] at h; exact C16.ne k h.symm e.symm
    · rw [hk] at h; cases h
      have := (C16.co.blk_ge k e.symm).2
      omega)
  refine ⟨⟨i + 1, ls ++ [(u, xs)], cs ++ [(t, xs)], by (try dsimp only); omega, by omega, by omega, by simp; exact hli, ⟨lo22, A2.own, ?_, ?_, ?_, ?_, ?_, by simp; omega, ?_⟩, A2.below co19 hB19.size hB19⟩, by (try dsimp only); omega⟩
  · intro k hk e
    have hk19 := (A.own.blk_ge k hk).2
    rcases A2.blk with h | ⟨b, h, hge⟩
    · have ec : copies.blk = some k := h.symm.trans e
      rcases A.blk with h' | ⟨b, h', hge⟩
      · rw [hk] at h'; exact C16.ne k h'.symm ec
      · rw [hk] at h'; cases h'
        have := (C16.co.blk_ge k ec).2
        omega
    · have : b = k := Option.some.inj (h.symm.trans e)
      omega
  · intro r hr'
    rcases List.mem_append.1 hr' with h | h
    · exact lent22 _ _ _ (C16.lent r h)
    · rw [List.mem_singleton] at h
      subst h
      exact lent22 _ _ _ ⟨hu.1, hu.2.lower zb⟩
  · rw [List.pairwise_append]
    refine ⟨C.pw, List.pairwise_singleton _ _, fun r h r' h' k k' hk hk' => ?_⟩
    rw [List.mem_singleton] at h'
    subst h'
    have h1 := ((C.lent r h).2.blk_ge k hk).2
    have h2 := (hu.2.blk_ge k' hk').1
    omega
  · intro r hr' W hW
    rcases List.mem_append.1 hr' with h | h
    · exact C.cr r h W hW
    · rw [List.mem_singleton] at h
      subst h
      exact ht W (hri.below hW)
  · rw [List.map_append, List.map_append, C.eq]; rfl
  · intro r hr'
    rcases List.mem_append.1 hr' with h | h
    · exact C.l4 r h
    · rw [List.mem_singleton] at h
      subst h
      exact hlt4
end Go.Proofs.Ytjgijifankaglaa
