/- PostWalks: what follows the collection. -/
import Derived.Test.YtjgijifankaglaaWF
namespace Go.Proofs.Ytjgijifankaglaa
open Go Go.RowKit Go.Proofs.Ytjgijifankaglaa.SX
set_option linter.unusedVariables false

theorem Col.below {B : Nat} {w w' w'' : World} {lists copies : Sl} {ls cs : List (Sl × List Int)} (C : Col B w w' lists copies ls cs) (b : Below w'.heap.size w' w'') : Col B w w'' lists copies ls cs :=
  ⟨C.lo.below b, C.co.below b, C.ne, fun r h => (C.lent r h).below b, C.pw, C.cr, C.eq, C.len, C.l4⟩
theorem own_lt {α : Type} {enc : α → Value} {e base : Nat} {w : World} {s : Sl} {xs : List α} (h : SX.Own enc e base w s xs) {a : Addr} (ha : s.a = some a) : base ≤ a.block ∧ a.block < w.heap.size := by
  rcases h.form with ⟨rfl, _⟩ | ⟨g, cap, cur, rfl, _, h3, _⟩
  · cases ha
  · cases ha; exact h.blk_ge g rfl
theorem len_of_map {rs' rs : List (Sl × List Int)} (h : rs'.map (·.2) = rs.map (·.2)) {N : Nat} (hl : ∀ r ∈ rs, r.2.length ≤ N) : ∀ r ∈ rs', r.2.length ≤ N := by
  intro r hr
  have : r.2 ∈ rs.map (·.2) := h ▸ List.mem_map.2 ⟨r, hr, rfl⟩
  obtain ⟨r', h1, h2⟩ := List.mem_map.1 this
  rw [← h2]; exact hl r' h1
theorem mm_fst (L : LL) : (MM L).map (·.1) = UL L := by
  unfold MM
  rw [List.map_map]
  exact (List.map_congr_left (fun _ _ => rfl)).trans (List.map_id _)
theorem mm_snd (L : LL) : (MM L).map (·.2) = nIs ((UL L).map (cntL L)) := by
  unfold MM nIs
  rw [List.map_map, List.map_map]
  exact List.map_congr_left (fun _ _ => rfl)
theorem rest6 {w w3 w10 : World} {stopv : Int} {B : Nat} {lists copies : Sl} {ls cs : List (Sl × List Int)} (C : Col B w w10 lists copies ls cs) (hw : Below w.heap.size w w10) (h3 : w.heap.size < w3.heap.size) (h2 : w3.heap.size < B) (hB : B ≤ w10.heap.size)
    (hs : w10.heap[w.heap.size]? = some (.cells #[.int .i64 stopv] 3 (0, 0))) (hr : w10.heap[w3.heap.size]? = some (.cells #[.bool false] 4 (0, 0))) :
    Rest6 (fun r0 w1 => r0 = true ∧ Below w.heap.size w w1) w w3 true lists copies w10 := by
  unfold Rest6
  have hcl : cs.length = ls.length := by have := congrArg List.length C.eq; simpa using this
  have h9 := C.len
  refine (C36 C.co.rd (fun r hr => C.cr r hr w10 hw) (len_of_map C.eq C.l4) (by omega)).mono ?_
  rintro _ w25 ⟨s1, s2, rfl, b25, H36⟩
  rw [C.eq] at H36
  have hX : ∃ (M : List Pr) (ns : List Nat), M.length ≤ 1000000 ∧ SX.Own E4 23 w10.heap.size w25 s1 (M.map (·.1)) ∧ M.map (·.2) = nIs ns ∧ SX.Own I8 3 w10.heap.size w25 s2 ns ∧ ((AUp (ls.map (·.2)) ∧ M = MM (ls.map (·.2))) ∨ (¬ AUp (ls.map (·.2)) ∧ M = [])) := by
    rcases H36 with ⟨hU, o1, o2⟩ | ⟨hU, rfl, rfl⟩
    · refine ⟨MM (ls.map (·.2)), _, ?_, by rw [mm_fst]; exact o1, mm_snd _, o2, .inl ⟨hU, rfl⟩⟩
      have h := ul_len (ls.map (·.2)) [] 400 (by
        intro l hl
        obtain ⟨r', h1, rfl⟩ := List.mem_map.1 hl
        exact C.l4 r' h1)
      unfold MM
      rw [List.length_map]
      have e : UL (ls.map (·.2)) = (ls.map (·.2)).foldl (fun out l => joi true true true out l) [] := rfl
      rw [e]
      rw [List.length_map] at h
      simp only [List.length_nil] at h
      omega
    · exact ⟨[], [], by simp, SX.Own.nil, rfl, SX.Own.nil, .inr ⟨hU, rfl⟩⟩
  clear H36
  obtain ⟨M, ns, hM, o1, hns, o2, hcase⟩ := hX
  refine ⟨s1, s2, rfl, ?_⟩
  have z25 := b25.size
  intro w26 e26
  have r26 : w26.heap[w25.heap.size]? = some (.cells #[.slice none 0 0] 22 (0, 0)) := by rw [e26]; exact heap_alloc_new w25 _
  have b26 : Below w25.heap.size w25 w26 := by rw [e26]; exact below_alloc' _ _
  clear e26
  have l26 := row_lt2 r26
  intro w27 e27
  have r27 : w27.heap[w26.heap.size]? = some (.cells #[.slice none 0 0] 41 (0, 0)) := by rw [e27]; exact heap_alloc_new w26 _
  have b27 : Below w26.heap.size w26 w27 := by rw [e27]; exact below_alloc' _ _
  clear e27
  have r27w : w27.heap[w25.heap.size]? = some (.cells #[.slice none 0 0] 22 (0, 0)) := by rw [b27.block _ l26]; exact r26
  refine ⟨has_row r27w (by show 0 < 1; omega), ?_⟩
  intro w28 e28
  have r28w := row_set2 r27w (j := 0) (.slice s1.a s1.n s1.c)
  have q28 := gr_set2 w27 ⟨w25.heap.size, 0, none⟩ (.slice s1.a s1.n s1.c)
  rw [← e28] at r28w q28
  clear e28
  have r28m := gr_blk2 q28 r27 (by (try dsimp only); omega)
  refine ⟨has_row r28m (by show 0 < 1; omega), ?_⟩
  intro w29 e29
  have r29m := row_set2 r28m (j := 0) (.slice s2.a s2.n s2.c)
  have q29 := gr_set2 w28 ⟨w26.heap.size, 0, none⟩ (.slice s2.a s2.n s2.c)
  rw [← e29] at r29m q29
  clear e29
  have r29w := gr_blk2 q29 r28w (by (try dsimp only); omega)
  have z26 := b26.size
  have z27 := b27.size
  have z28 := q28.size
  have z29 := q29.size
  have B29 : Below w25.heap.size w25 w29 :=
    ((b26.trans (b27.mono z26)).trans (q28.toBelow (B := w25.heap.size) (by omega) (fun k hk => by (try dsimp only at hk); omega))).trans (q29.toBelow (B := w25.heap.size) (by omega) (fun k hk => by (try dsimp only at hk); omega))
  have o1 := o1.below B29
  have o2 := o2.below B29
  have B29 : Below w10.heap.size w10 w29 := b25.trans (B29.mono z25)
  clear q28 q29 r28m r28w r27w r27 r26 b26 b27
  have C29 := C.below B29
  refine (C37 C29.lo.rd (fun r h => (C29.lent r h).lent.rd) C.l4 (by omega)).mono ?_
  rintro _ w31 ⟨v, rfl, b31, H37⟩
  have z31 := b31.size
  have C31 := C29.below b31
  have B31 : Below w10.heap.size w10 w31 := B29.trans (b31.mono B29.size)
  have o1 := o1.below b31
  have o2 := o2.below b31
  have r31w : w31.heap[w25.heap.size]? = _ := (b31.block _ (row_lt2 r29w)).trans r29w
  have r31m : w31.heap[w26.heap.size]? = _ := (b31.block _ (row_lt2 r29m)).trans r29m
  have r31s : w31.heap[w.heap.size]? = _ := (B31.block _ (row_lt2 hs)).trans hs
  have r31r : w31.heap[w3.heap.size]? = _ := (B31.block _ (row_lt2 hr)).trans hr
  have hw31 : Below w.heap.size w w31 := hw.trans (B31.mono hw.size)
  have zw := hw.size
  refine ⟨v, rfl, false, nil_no v _ _ w31 ?_, (fun h => nomatch h), fun _ => ?_⟩
  · rcases H37 with ⟨_, c, _, h, _⟩ | ⟨_, h⟩
    · exact .inl ⟨c, h⟩
    · exact .inr h
  have lw := row_lt2 r31w
  have lm := row_lt2 r31m
  refine loop6 (N := w10.heap.size) C31 (by omega) hw31 (by omega) (fun k hk => (C.lo.blk_ge k hk).2) (fun r h k hk => ((C.lent r h).2.blk_ge k hk).2) ?_
  intro w36 q w56 e56
  have r56 : w56.heap[w36.heap.size]? = some (.cells #[.int .i64 0] 3 (0, 0)) := by rw [e56]; exact heap_alloc_new w36 _
  have b56 : Below w36.heap.size w36 w56 := by rw [e56]; exact below_alloc' _ _
  clear e56
  refine ⟨has_row r56 (by show 0 < 1; omega), ?_⟩
  intro w57 e57
  have r57 := row_set2 r56 (j := 0) (.int .i64 0)
  have q57 := gr_set2 w56 ⟨w36.heap.size, 0, none⟩ (.int .i64 0)
  rw [← e57] at r57 q57
  clear e57
  have z36 := q.size
  have Q : Gr (fun k => (B ≤ k ∧ k < w10.heap.size) ∨ w36.heap.size ≤ k) w31 w57 :=
    ((q.mono (T := fun k => (B ≤ k ∧ k < w10.heap.size) ∨ w36.heap.size ≤ k) (fun k hk => .inl hk)).trans (Gr.below (S := fun k => w36.heap.size ≤ k) b56) (fun i hi hk => .inr hk)).trans q57 (fun i hi hk => .inr (by (try dsimp only at hk); omega))
  have z57 := q57.size
  have hkl := row_lt2 r57
  have n1 := fun a (ha : s1.a = some a) => (own_lt o1 ha).2
  have n2 := fun a (ha : s2.a = some a) => (own_lt o2 ha).2
  have o1 : SX.Own E4 23 w10.heap.size w57 s1 (M.map (·.1)) := Q.own o1 (fun b hb h => by have := o1.blk_ge b hb; omega)
  have o2 : SX.Own I8 3 w10.heap.size w57 s2 ns := Q.own o2 (fun b hb h => by have := o2.blk_ge b hb; omega)
  have hw57 : Below w.heap.size w w57 := hw31.trans (Q.toBelow hw31.size (fun k hk => by omega))
  unfold F6_cut
  intro f f3 f4 f5 f10 f11 f12 f16
  have hit : Iter w57 w36.heap.size v M := by
    rcases H37 with ⟨hU, c, rs', rfl, ⟨all, hc0, hc1, hc2, hc3⟩, hmap⟩ | ⟨hU, rfl⟩
    · have eM : M = MM (rs'.map (·.2)) := by
        rcases hcase with ⟨_, h⟩ | ⟨h, _⟩
        · rw [h, hmap]
        · exact absurd hU h
      have lc := row_lt2 hc1
      have hc1' : w57.heap[c]? = some (.cells #[.slice all.a all.n all.c] 40 (0, 0)) := gr_blk2 Q hc1 (by omega)
      have hc2' := Q.own hc2 (fun b hb h => by have := hc2.blk_ge b hb; omega)
      have hc3' : ∀ r ∈ rs', SX.Own E4 23 w29.heap.size w57 r.1 r.2 := fun r hr => Q.own (hc3 r hr) (fun b hb h => by have := (hc3 r hr).blk_ge b hb; omega)
      rw [eM]
      refine C74 ⟨all, hc1', hc2'.rd, fun r hr => (hc3' r hr).rd⟩ (by omega) (fun r hr a ha _ => by have := own_lt (hc3 r hr) ha; omega) (fun all' h a ha _ => ?_) (by rw [hmap]; exact hU) (len_of_map hmap C.l4) (by have := congrArg List.length hmap; simp only [List.length_map] at this; omega)
      rw [hc1'] at h
      have e : all.a = all'.a := by
        have h1 := Option.some.inj h
        injection h1 with h1
        have h2 : (#[Value.slice all.a all.n all.c] : Array Value)[0]? = #[Value.slice all'.a all'.n all'.c][0]? := by rw [h1]
        have h3 : Value.slice all.a all.n all.c = Value.slice all'.a all'.n all'.c := Option.some.inj h2
        injection h3
      have := own_lt hc2 (e.trans ha)
      omega
    · have eM : M = [] := by
        rcases hcase with ⟨h, _⟩ | ⟨_, h⟩
        · exact absurd h hU
        · exact h
      rw [eM]
      exact iter_none _ _
  have hmr := rd_ints o2.rd
  have e2 : ns.map (fun n : Nat => (n : Int)) = M.map (·.2) := hns.symm
  rw [e2] at hmr
  refine tail_all (stopv := stopv) (want := s1) (many := s2) (M := M) (x0 := false) ⟨gr_blk2 Q r31s (by omega), gr_blk2 Q r31r (by omega), gr_blk2 Q r31w (by omega), gr_blk2 Q r31m (by omega), o1.rd, hmr, hit, by omega, fun a ha _ => by have := n1 a ha; omega, fun a ha _ => by have := n2 a ha; omega, hM, fun W g => ⟨rfl, hw57.trans (g.toBelow hw57.size (fun k hk => by omega))⟩⟩ hkl r57 f f3 f4 f5 f10 f11 f12 f16
end Go.Proofs.Ytjgijifankaglaa
