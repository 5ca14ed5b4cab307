/- TopNames: the closed walk. -/
import Derived.Test.YtdeficpjcnhdkaaDoorTA
namespace Go.Proofs.YtdeficpjcnhdkaaDoor
open Go Go.RowKit Go.Proofs.YtdeficpjcnhdkaaDoor.SX
set_option linter.unusedVariables false

theorem add2 (g i j : Nat) : ((⟨g, 0, none⟩ : Addr).add i).add j = ⟨g, i + j, none⟩ := by
  rw [add_lit]; unfold Addr.add; split <;> simp_all
theorem store_row {P : Program} {w : World} {T k g e : Nat} {cs ns : Array Value} {vs : List Value} (h : w.heap[g]? = some (.cells cs e (0, 0))) (hT : (P.info? T).map (·.size) = some k) (hl : vs.length = k) (hk : k ≤ cs.size)
    (h1 : (vs.all fun u => u.oneCell') = true) (hs : sets cs 0 vs = ns) :
    ∃ w', (Instr.storeAt T (.pointer (some ⟨g, 0, none⟩)) (.agg vs.toArray)).run P w = .ok () w' ∧ w'.heap[g]? = some (.cells ns e (0, 0)) ∧ Gr (fun k => k = g) w w' :=
  ⟨_, rn_storecells hT hl (fun u hu => List.all_eq_true.1 h1 u hu) (row_hass h k 0 (by omega)), hs ▸ row_sets vs 0 h, gr_sets vs 0 w⟩
theorem load_row {P : Program} {w : World} {T k g e : Nat} {cs : Array Value} (h : w.heap[g]? = some (.cells cs e (0, 0))) (hT : aggT P T = true ∧ (P.info? T).map (·.size) = some k) (hl : cs.size = k) :
    (Instr.loadAt T (.pointer (some ⟨g, 0, none⟩))).run P w = .ok (.agg cs) w := by
  have := rn_loadcells (P := P) (w := w) (a := ⟨g, 0, none⟩) hT (by simpa using hl) (row_cellsAt h)
  simpa using this
theorem below_row (w : World) (o : Obj) : Below w.heap.size w (w.alloc o) := (Below.refl _ _).alloc (Nat.le_refl _) _
set_option maxHeartbeats 4000000 in
theorem F3_spec (w : World) : F3 (fun r0 w1 => r0 = true ∧ Below w.heap.size w w1) w := by
  unfold F3
  have B : Below w.heap.size w w := Below.refl _ _
  have z := B.size
  intro w1 e
  have b : Below w.heap.size w w1 := by rw [e]; exact below_row _ _
  have h1 : w1.heap[w.heap.size]? = some (.cells #[.int .i64 7, .int .i64 90] 25 (0, 0)) := by rw [e]; exact heap_alloc_new w _
  clear e
  have q : Gr (fun _ => False) w w1 := Gr.below b
  have B := B.trans (b.mono B.size)
  refine (F5_sound (some ⟨w.heap.size, 0, none⟩) (fun r0 w' => r0 = Value.iface 23 (.int .i64 90) ∧ w' = w1) w1 (by
    unfold F5
    exact ⟨_, rfl, 90, by rw [add_lit, row_get h1]; rfl, rfl, rfl⟩)).mono ?_
  rintro _ w3 ⟨t16, rfl, rfl, hw⟩
  rw [hw]; clear hw
  refine ⟨_, rfl, 90, by rw [add_lit, row_get h1]; rfl, ?_⟩
  refine (F6_sound 90 (fun r0 w' => r0 = 90 ∧ w' = w1) w1 (by unfold F6; exact ⟨rfl, rfl⟩)).mono ?_
  rintro _ w6 ⟨t21, rfl, rfl, hw⟩
  rw [hw]; clear hw
  refine ⟨_, rfl, ?_⟩
  have d_h1 := row_lt h1
  have z := B.size
  intro w7 e
  have b : Below w1.heap.size w1 w7 := by rw [e]; exact below_row _ _
  have h2 : w7.heap[w1.heap.size]? = some (.cells #[.string ((ByteArray.mk #[97])), .string ((ByteArray.mk #[98]))] 31 (0, 0)) := by rw [e]; exact heap_alloc_new w1 _
  clear e
  have q : Gr (fun _ => False) w1 w7 := Gr.below b
  have h1 := q.blk h1 (fun h => h)
  have B := B.trans (b.mono B.size)
  have d_h1 := row_lt h1
  have d_h2 := row_lt h2
  have z := B.size
  intro w8 e
  have b : Below w7.heap.size w7 w8 := by rw [e]; exact below_row _ _
  have h3 : w8.heap[w7.heap.size]? = some (.cells #[.string ((ByteArray.mk #[97])), .int .i64 1, .string ((ByteArray.mk #[98]))] 34 (0, 0)) := by rw [e]; exact heap_alloc_new w7 _
  clear e
  have q : Gr (fun _ => False) w7 w8 := Gr.below b
  have h1 := q.blk h1 (fun h => h)
  have h2 := q.blk h2 (fun h => h)
  have B := B.trans (b.mono B.size)
  have d_h1 := row_lt h1
  have d_h2 := row_lt h2
  have d_h3 := row_lt h3
  have z := B.size
  intro w9 e
  have b : Below w8.heap.size w8 w9 := by rw [e]; exact below_row _ _
  have h4 : w9.heap[w8.heap.size]? = some (.cells #[.int .i64 ((-1)), .int .u64 1] 38 (0, 0)) := by rw [e]; exact heap_alloc_new w8 _
  clear e
  have q : Gr (fun _ => False) w8 w9 := Gr.below b
  have h1 := q.blk h1 (fun h => h)
  have h2 := q.blk h2 (fun h => h)
  have h3 := q.blk h3 (fun h => h)
  have B := B.trans (b.mono B.size)
  have d_h1 := row_lt h1
  have d_h2 := row_lt h2
  have d_h3 := row_lt h3
  have d_h4 := row_lt h4
  have z := B.size
  intro w10 e
  have b : Below w9.heap.size w9 w10 := by rw [e]; exact below_row _ _
  have h5 : w10.heap[w9.heap.size]? = some (.cells #[.slice none 0 0, .slice none 0 0] 41 (0, 0)) := by rw [e]; exact heap_alloc_new w9 _
  clear e
  have q : Gr (fun _ => False) w9 w10 := Gr.below b
  have h1 := q.blk h1 (fun h => h)
  have h2 := q.blk h2 (fun h => h)
  have h3 := q.blk h3 (fun h => h)
  have h4 := q.blk h4 (fun h => h)
  have B := B.trans (b.mono B.size)
  refine ⟨row_hass h5 2 0 (by decide), ?_⟩
  intro w11 e
  have q : Gr (fun k => k = w9.heap.size) w10 w11 := by rw [e]; exact gr_sets _ 0 _
  have h5 : w11.heap[w9.heap.size]? = some (.cells #[.slice (some ⟨w1.heap.size, 0, none⟩) 1 1, .slice (some ⟨w8.heap.size, 0, none⟩) 1 1] 41 (0, 0)) := by rw [e]; exact row_sets _ 0 h5
  clear e
  have h1 := q.blk h1 (by omega)
  have h2 := q.blk h2 (by omega)
  have h3 := q.blk h3 (by omega)
  have h4 := q.blk h4 (by omega)
  have B := B.trans (q.toBelow B.size (fun k hk => by omega))
  refine ⟨_, b42, _, b44, ?_⟩
  have d_h1 := row_lt h1
  have d_h2 := row_lt h2
  have d_h3 := row_lt h3
  have d_h4 := row_lt h4
  have d_h5 := row_lt h5
  have z := B.size
  intro w14 e
  have b : Below w11.heap.size w11 w14 := by rw [e]; exact below_row _ _
  have h6 : w14.heap[w11.heap.size]? = some (.cells #[.int .u8 0, .int .u8 0, .int .u8 0, .int .u8 0, .int .u8 0, .int .u8 0, .int .u8 0, .int .u8 0, .int .u8 0, .int .u8 0, .int .u8 0, .int .u8 0, .int .u8 0, .int .u8 0, .int .u8 0, .int .u8 0, .int .u8 0, .int .u8 0, .int .u8 0, .int .u8 0, .int .u8 0, .int .u8 0, .int .u8 0, .int .u8 0, .int .u8 0, .int .u8 0, .int .u8 0, .int .u8 0, .int .u8 0, .int .u8 0, .int .u8 0, .int .u8 0, .int .i64 0, .slice none 0 0] 44 (0, 0)) := by rw [e]; exact heap_alloc_new w11 _
  clear e
  have q : Gr (fun _ => False) w11 w14 := Gr.below b
  have h1 := q.blk h1 (fun h => h)
  have h2 := q.blk h2 (fun h => h)
  have h3 := q.blk h3 (fun h => h)
  have h4 := q.blk h4 (fun h => h)
  have h5 := q.blk h5 (fun h => h)
  have B := B.trans (b.mono B.size)
  obtain ⟨w15, r, h6, q⟩ := store_row (P := Tryd.prog) (T := 44) (k := 34) (vs := [.int .u8 1, .int .u8 0, .int .u8 0, .int .u8 0, .int .u8 0, .int .u8 0, .int .u8 0, .int .u8 0, .int .u8 0, .int .u8 0, .int .u8 0, .int .u8 0, .int .u8 0, .int .u8 0, .int .u8 0, .int .u8 0, .int .u8 0, .int .u8 0, .int .u8 0, .int .u8 0, .int .u8 0, .int .u8 0, .int .u8 0, .int .u8 0, .int .u8 0, .int .u8 0, .int .u8 0, .int .u8 0, .int .u8 0, .int .u8 0, .int .u8 0, .int .u8 0, .int .i64 2, .slice (some ⟨w7.heap.size, 0, none⟩) 1 1]) (ns := #[.int .u8 1, .int .u8 0, .int .u8 0, .int .u8 0, .int .u8 0, .int .u8 0, .int .u8 0, .int .u8 0, .int .u8 0, .int .u8 0, .int .u8 0, .int .u8 0, .int .u8 0, .int .u8 0, .int .u8 0, .int .u8 0, .int .u8 0, .int .u8 0, .int .u8 0, .int .u8 0, .int .u8 0, .int .u8 0, .int .u8 0, .int .u8 0, .int .u8 0, .int .u8 0, .int .u8 0, .int .u8 0, .int .u8 0, .int .u8 0, .int .u8 0, .int .u8 0, .int .i64 2, .slice (some ⟨w7.heap.size, 0, none⟩) 1 1]) h6 (by kernel_rfl) rfl (by decide) (by kernel_rfl) (by kernel_rfl)
  refine ⟨w15, r, ?_⟩
  clear r
  have h1 := q.blk h1 (by omega)
  have h2 := q.blk h2 (by omega)
  have h3 := q.blk h3 (by omega)
  have h4 := q.blk h4 (by omega)
  have h5 := q.blk h5 (by omega)
  have B := B.trans (q.toBelow B.size (fun k hk => by omega))
  refine ⟨_, load_row h6 (k := 34) (by constructor <;> kernel_rfl) rfl, _, b42b, ⟨some ⟨w1.heap.size, 0, none⟩, 1, 1⟩, ⟨some ⟨w8.heap.size, 0, none⟩, 1, 1⟩, row_cellsAt h5, ?_⟩
  have d_h1 := row_lt h1
  have d_h2 := row_lt h2
  have d_h3 := row_lt h3
  have d_h4 := row_lt h4
  have d_h5 := row_lt h5
  have d_h6 := row_lt h6
  have z := B.size
  intro w20 e
  have b : Below w15.heap.size w15 w20 := by rw [e]; exact below_row _ _
  have h7 : w20.heap[w15.heap.size]? = some (.cells #[.slice (some ⟨w1.heap.size, 0, none⟩) 1 1, .slice (some ⟨w8.heap.size, 0, none⟩) 1 1] 41 (0, 0)) := by rw [e]; exact heap_alloc_new w15 _
  clear e
  have q : Gr (fun _ => False) w15 w20 := Gr.below b
  have h1 := q.blk h1 (fun h => h)
  have h2 := q.blk h2 (fun h => h)
  have h3 := q.blk h3 (fun h => h)
  have h4 := q.blk h4 (fun h => h)
  have h5 := q.blk h5 (fun h => h)
  have h6 := q.blk h6 (fun h => h)
  have B := B.trans (b.mono B.size)
  refine ⟨_, b47, ?_⟩
  have d_h1 := row_lt h1
  have d_h2 := row_lt h2
  have d_h3 := row_lt h3
  have d_h4 := row_lt h4
  have d_h5 := row_lt h5
  have d_h6 := row_lt h6
  have d_h7 := row_lt h7
  have z := B.size
  intro w22 e
  have b : Below w20.heap.size w20 w22 := by rw [e]; exact below_row _ _
  have h8 : w22.heap[w20.heap.size]? = some (.cells #[.int .i64 0, .string ByteArray.empty, .int .i64 0, .int .i64 0, .int .u8 0, .int .u8 0, .int .u8 0, .int .u8 0, .int .u8 0, .int .u8 0, .int .u8 0, .int .u8 0, .int .u8 0, .int .u8 0, .int .u8 0, .int .u8 0, .int .u8 0, .int .u8 0, .int .u8 0, .int .u8 0, .int .u8 0, .int .u8 0, .int .u8 0, .int .u8 0, .int .u8 0, .int .u8 0, .int .u8 0, .int .u8 0, .int .u8 0, .int .u8 0, .int .u8 0, .int .u8 0, .int .u8 0, .int .u8 0, .int .u8 0, .int .u8 0, .int .i64 0, .slice none 0 0, .int .u8 0, .int .u8 0, .int .u8 0, .int .u8 0, .int .u8 0, .int .u8 0, .int .u8 0, .int .u8 0, .int .u8 0, .int .u8 0, .int .u8 0, .int .u8 0, .int .u8 0, .int .u8 0, .int .u8 0, .int .u8 0, .int .u8 0, .int .u8 0, .int .u8 0, .int .u8 0, .int .u8 0, .int .u8 0, .int .u8 0, .int .u8 0, .int .u8 0, .int .u8 0, .int .u8 0, .int .u8 0, .int .u8 0, .int .u8 0, .int .u8 0, .int .u8 0, .int .i64 0, .slice none 0 0] 47 (0, 0)) := by rw [e]; exact heap_alloc_new w20 _
  clear e
  have q : Gr (fun _ => False) w20 w22 := Gr.below b
  have h1 := q.blk h1 (fun h => h)
  have h2 := q.blk h2 (fun h => h)
  have h3 := q.blk h3 (fun h => h)
  have h4 := q.blk h4 (fun h => h)
  have h5 := q.blk h5 (fun h => h)
  have h6 := q.blk h6 (fun h => h)
  have h7 := q.blk h7 (fun h => h)
  have B := B.trans (b.mono B.size)
  obtain ⟨w23, r, h8, q⟩ := store_row (P := Tryd.prog) (T := 47) (k := 72) (vs := [.int .i64 1, .string ((ByteArray.mk #[116])), .int .i64 2, .int .i64 3, .int .u8 1, .int .u8 0, .int .u8 0, .int .u8 0, .int .u8 0, .int .u8 0, .int .u8 0, .int .u8 0, .int .u8 0, .int .u8 0, .int .u8 0, .int .u8 0, .int .u8 0, .int .u8 0, .int .u8 0, .int .u8 0, .int .u8 0, .int .u8 0, .int .u8 0, .int .u8 0, .int .u8 0, .int .u8 0, .int .u8 0, .int .u8 0, .int .u8 0, .int .u8 0, .int .u8 0, .int .u8 0, .int .u8 0, .int .u8 0, .int .u8 0, .int .u8 0, .int .i64 2, .slice (some ⟨w7.heap.size, 0, none⟩) 1 1, .int .u8 4, .int .u8 0, .int .u8 0, .int .u8 0, .int .u8 0, .int .u8 0, .int .u8 0, .int .u8 0, .int .u8 0, .int .u8 0, .int .u8 0, .int .u8 0, .int .u8 0, .int .u8 0, .int .u8 0, .int .u8 0, .int .u8 0, .int .u8 0, .int .u8 0, .int .u8 0, .int .u8 0, .int .u8 0, .int .u8 0, .int .u8 0, .int .u8 0, .int .u8 0, .int .u8 0, .int .u8 0, .int .u8 0, .int .u8 0, .int .u8 0, .int .u8 0, .int .i64 5, .slice (some ⟨w15.heap.size, 0, none⟩) 1 1]) (ns := #[.int .i64 1, .string ((ByteArray.mk #[116])), .int .i64 2, .int .i64 3, .int .u8 1, .int .u8 0, .int .u8 0, .int .u8 0, .int .u8 0, .int .u8 0, .int .u8 0, .int .u8 0, .int .u8 0, .int .u8 0, .int .u8 0, .int .u8 0, .int .u8 0, .int .u8 0, .int .u8 0, .int .u8 0, .int .u8 0, .int .u8 0, .int .u8 0, .int .u8 0, .int .u8 0, .int .u8 0, .int .u8 0, .int .u8 0, .int .u8 0, .int .u8 0, .int .u8 0, .int .u8 0, .int .u8 0, .int .u8 0, .int .u8 0, .int .u8 0, .int .i64 2, .slice (some ⟨w7.heap.size, 0, none⟩) 1 1, .int .u8 4, .int .u8 0, .int .u8 0, .int .u8 0, .int .u8 0, .int .u8 0, .int .u8 0, .int .u8 0, .int .u8 0, .int .u8 0, .int .u8 0, .int .u8 0, .int .u8 0, .int .u8 0, .int .u8 0, .int .u8 0, .int .u8 0, .int .u8 0, .int .u8 0, .int .u8 0, .int .u8 0, .int .u8 0, .int .u8 0, .int .u8 0, .int .u8 0, .int .u8 0, .int .u8 0, .int .u8 0, .int .u8 0, .int .u8 0, .int .u8 0, .int .u8 0, .int .i64 5, .slice (some ⟨w15.heap.size, 0, none⟩) 1 1]) h8 (by kernel_rfl) rfl (by decide) (by kernel_rfl) (by kernel_rfl)
  refine ⟨w23, r, ?_⟩
  clear r
  have h1 := q.blk h1 (by omega)
  have h2 := q.blk h2 (by omega)
  have h3 := q.blk h3 (by omega)
  have h4 := q.blk h4 (by omega)
  have h5 := q.blk h5 (by omega)
  have h6 := q.blk h6 (by omega)
  have h7 := q.blk h7 (by omega)
  have B := B.trans (q.toBelow B.size (fun k hk => by omega))
  have d_h1 := row_lt h1
  have d_h2 := row_lt h2
  have d_h3 := row_lt h3
  have d_h4 := row_lt h4
  have d_h5 := row_lt h5
  have d_h6 := row_lt h6
  have d_h7 := row_lt h7
  have d_h8 := row_lt h8
  have z := B.size
  intro w24 e
  have b : Below w23.heap.size w23 w24 := by rw [e]; exact below_row _ _
  have h9 : w24.heap[w23.heap.size]? = some (.cells #[.int .u8 2] 5 (0, 0)) := by rw [e]; exact heap_alloc_new w23 _
  clear e
  have q : Gr (fun _ => False) w23 w24 := Gr.below b
  have h1 := q.blk h1 (fun h => h)
  have h2 := q.blk h2 (fun h => h)
  have h3 := q.blk h3 (fun h => h)
  have h4 := q.blk h4 (fun h => h)
  have h5 := q.blk h5 (fun h => h)
  have h6 := q.blk h6 (fun h => h)
  have h7 := q.blk h7 (fun h => h)
  have h8 := q.blk h8 (fun h => h)
  have B := B.trans (b.mono B.size)
  refine ⟨⟨some ⟨w15.heap.size, 0, none⟩, 1, 1⟩, by rw [add_lit, row_get h8]; rfl, ?_⟩
  have d_h1 := row_lt h1
  have d_h2 := row_lt h2
  have d_h3 := row_lt h3
  have d_h4 := row_lt h4
  have d_h5 := row_lt h5
  have d_h6 := row_lt h6
  have d_h7 := row_lt h7
  have d_h8 := row_lt h8
  have d_h9 := row_lt h9
  have z := B.size
  intro w26 e
  have b : Below w24.heap.size w24 w26 := by rw [e]; exact below_row _ _
  have h10 : w26.heap[w24.heap.size]? = some (.cells #[.int .u8 8] 5 (0, 0)) := by rw [e]; exact heap_alloc_new w24 _
  clear e
  have q : Gr (fun _ => False) w24 w26 := Gr.below b
  have h1 := q.blk h1 (fun h => h)
  have h2 := q.blk h2 (fun h => h)
  have h3 := q.blk h3 (fun h => h)
  have h4 := q.blk h4 (fun h => h)
  have h5 := q.blk h5 (fun h => h)
  have h6 := q.blk h6 (fun h => h)
  have h7 := q.blk h7 (fun h => h)
  have h8 := q.blk h8 (fun h => h)
  have h9 := q.blk h9 (fun h => h)
  have B := B.trans (b.mono B.size)
  refine ⟨_, b50, ?_⟩
  have d_h1 := row_lt h1
  have d_h2 := row_lt h2
  have d_h3 := row_lt h3
  have d_h4 := row_lt h4
  have d_h5 := row_lt h5
  have d_h6 := row_lt h6
  have d_h7 := row_lt h7
  have d_h8 := row_lt h8
  have d_h9 := row_lt h9
  have d_h10 := row_lt h10
  have z := B.size
  intro w28 e
  have b : Below w26.heap.size w26 w28 := by rw [e]; exact below_row _ _
  have h11 : w28.heap[w26.heap.size]? = some (.cells #[.int .i64 0, .string ByteArray.empty, .slice none 0 0, .slice none 0 0, .slice none 0 0, .int .i64 0, .int .i64 0, .string ByteArray.empty, .string ByteArray.empty, .int .i64 0, .int .i64 0, .int .i64 0, .slice none 0 0] 50 (0, 0)) := by rw [e]; exact heap_alloc_new w26 _
  clear e
  have q : Gr (fun _ => False) w26 w28 := Gr.below b
  have h1 := q.blk h1 (fun h => h)
  have h2 := q.blk h2 (fun h => h)
  have h3 := q.blk h3 (fun h => h)
  have h4 := q.blk h4 (fun h => h)
  have h5 := q.blk h5 (fun h => h)
  have h6 := q.blk h6 (fun h => h)
  have h7 := q.blk h7 (fun h => h)
  have h8 := q.blk h8 (fun h => h)
  have h9 := q.blk h9 (fun h => h)
  have h10 := q.blk h10 (fun h => h)
  have B := B.trans (b.mono B.size)
  obtain ⟨w29, r, h11, q⟩ := store_row (P := Tryd.prog) (T := 50) (k := 13) (vs := [.int .i64 1, .string ((ByteArray.mk #[116])), .slice (some ⟨w23.heap.size, 0, none⟩) 1 1, .slice (some ⟨w15.heap.size, 0, none⟩) 1 1, .slice (some ⟨w7.heap.size, 0, none⟩) 1 1, .int .i64 3, .int .i64 4, .string ((ByteArray.mk #[113])), .string ((ByteArray.mk #[110])), .int .i64 5, .int .i64 6, .int .i64 7, .slice (some ⟨w24.heap.size, 0, none⟩) 1 1]) (ns := #[.int .i64 1, .string ((ByteArray.mk #[116])), .slice (some ⟨w23.heap.size, 0, none⟩) 1 1, .slice (some ⟨w15.heap.size, 0, none⟩) 1 1, .slice (some ⟨w7.heap.size, 0, none⟩) 1 1, .int .i64 3, .int .i64 4, .string ((ByteArray.mk #[113])), .string ((ByteArray.mk #[110])), .int .i64 5, .int .i64 6, .int .i64 7, .slice (some ⟨w24.heap.size, 0, none⟩) 1 1]) h11 (by kernel_rfl) rfl (by decide) (by kernel_rfl) (by kernel_rfl)
  refine ⟨w29, r, ?_⟩
  clear r
  have h1 := q.blk h1 (by omega)
  have h2 := q.blk h2 (by omega)
  have h3 := q.blk h3 (by omega)
  have h4 := q.blk h4 (by omega)
  have h5 := q.blk h5 (by omega)
  have h6 := q.blk h6 (by omega)
  have h7 := q.blk h7 (by omega)
  have h8 := q.blk h8 (by omega)
  have h9 := q.blk h9 (by omega)
  have h10 := q.blk h10 (by omega)
  have B := B.trans (q.toBelow B.size (fun k hk => by omega))
  refine ⟨⟨some ⟨w15.heap.size, 0, none⟩, 1, 1⟩, by rw [add_lit, row_get h8]; rfl, ?_⟩
  have d_h1 := row_lt h1
  have d_h2 := row_lt h2
  have d_h3 := row_lt h3
  have d_h4 := row_lt h4
  have d_h5 := row_lt h5
  have d_h6 := row_lt h6
  have d_h7 := row_lt h7
  have d_h8 := row_lt h8
  have d_h9 := row_lt h9
  have d_h10 := row_lt h10
  have d_h11 := row_lt h11
  have z := B.size
  intro w31 e
  have b : Below w29.heap.size w29 w31 := by rw [e]; exact below_row _ _
  have h12 : w31.heap[w29.heap.size]? = some (.cells #[.slice (some ⟨w1.heap.size, 0, none⟩) 1 1, .int .u64 2] 52 (0, 0)) := by rw [e]; exact heap_alloc_new w29 _
  clear e
  have q : Gr (fun _ => False) w29 w31 := Gr.below b
  have h1 := q.blk h1 (fun h => h)
  have h2 := q.blk h2 (fun h => h)
  have h3 := q.blk h3 (fun h => h)
  have h4 := q.blk h4 (fun h => h)
  have h5 := q.blk h5 (fun h => h)
  have h6 := q.blk h6 (fun h => h)
  have h7 := q.blk h7 (fun h => h)
  have h8 := q.blk h8 (fun h => h)
  have h9 := q.blk h9 (fun h => h)
  have h10 := q.blk h10 (fun h => h)
  have h11 := q.blk h11 (fun h => h)
  have B := B.trans (b.mono B.size)
  have d_h1 := row_lt h1
  have d_h2 := row_lt h2
  have d_h3 := row_lt h3
  have d_h4 := row_lt h4
  have d_h5 := row_lt h5
  have d_h6 := row_lt h6
  have d_h7 := row_lt h7
  have d_h8 := row_lt h8
  have d_h9 := row_lt h9
  have d_h10 := row_lt h10
  have d_h11 := row_lt h11
  have d_h12 := row_lt h12
  have z := B.size
  intro w32 e
  have b : Below w31.heap.size w31 w32 := by rw [e]; exact below_row _ _
  have h13 : w32.heap[w31.heap.size]? = some (.cells #[.string ((ByteArray.mk #[120]))] 9 (0, 0)) := by rw [e]; exact heap_alloc_new w31 _
  clear e
  have q : Gr (fun _ => False) w31 w32 := Gr.below b
  have h1 := q.blk h1 (fun h => h)
  have h2 := q.blk h2 (fun h => h)
  have h3 := q.blk h3 (fun h => h)
  have h4 := q.blk h4 (fun h => h)
  have h5 := q.blk h5 (fun h => h)
  have h6 := q.blk h6 (fun h => h)
  have h7 := q.blk h7 (fun h => h)
  have h8 := q.blk h8 (fun h => h)
  have h9 := q.blk h9 (fun h => h)
  have h10 := q.blk h10 (fun h => h)
  have h11 := q.blk h11 (fun h => h)
  have h12 := q.blk h12 (fun h => h)
  have B := B.trans (b.mono B.size)
  have d_h1 := row_lt h1
  have d_h2 := row_lt h2
  have d_h3 := row_lt h3
  have d_h4 := row_lt h4
  have d_h5 := row_lt h5
  have d_h6 := row_lt h6
  have d_h7 := row_lt h7
  have d_h8 := row_lt h8
  have d_h9 := row_lt h9
  have d_h10 := row_lt h10
  have d_h11 := row_lt h11
  have d_h12 := row_lt h12
  have d_h13 := row_lt h13
  have z := B.size
  intro w33 e
  have b : Below w32.heap.size w32 w33 := by rw [e]; exact below_row _ _
  have h14 : w33.heap[w32.heap.size]? = some (.cells #[.int .i64 0, .int .i64 0, .slice none 0 0, .slice none 0 0, .int .i64 0, .slice none 0 0] 56 (0, 0)) := by rw [e]; exact heap_alloc_new w32 _
  clear e
  have q : Gr (fun _ => False) w32 w33 := Gr.below b
  have h1 := q.blk h1 (fun h => h)
  have h2 := q.blk h2 (fun h => h)
  have h3 := q.blk h3 (fun h => h)
  have h4 := q.blk h4 (fun h => h)
  have h5 := q.blk h5 (fun h => h)
  have h6 := q.blk h6 (fun h => h)
  have h7 := q.blk h7 (fun h => h)
  have h8 := q.blk h8 (fun h => h)
  have h9 := q.blk h9 (fun h => h)
  have h10 := q.blk h10 (fun h => h)
  have h11 := q.blk h11 (fun h => h)
  have h12 := q.blk h12 (fun h => h)
  have h13 := q.blk h13 (fun h => h)
  have B := B.trans (b.mono B.size)
  refine ⟨row_hass h14 6 0 (by decide), ?_⟩
  intro w34 e
  have q : Gr (fun k => k = w32.heap.size) w33 w34 := by rw [e]; exact gr_sets _ 0 _
  have h14 : w34.heap[w32.heap.size]? = some (.cells #[.int .i64 0, .int .i64 1, .slice (some ⟨w15.heap.size, 0, none⟩) 1 1, .slice (some ⟨w29.heap.size, 0, none⟩) 1 1, .int .i64 3, .slice (some ⟨w31.heap.size, 0, none⟩) 1 1] 56 (0, 0)) := by rw [e]; exact row_sets _ 0 h14
  clear e
  have h1 := q.blk h1 (by omega)
  have h2 := q.blk h2 (by omega)
  have h3 := q.blk h3 (by omega)
  have h4 := q.blk h4 (by omega)
  have h5 := q.blk h5 (by omega)
  have h6 := q.blk h6 (by omega)
  have h7 := q.blk h7 (by omega)
  have h8 := q.blk h8 (by omega)
  have h9 := q.blk h9 (by omega)
  have h10 := q.blk h10 (by omega)
  have h11 := q.blk h11 (by omega)
  have h12 := q.blk h12 (by omega)
  have h13 := q.blk h13 (by omega)
  have B := B.trans (q.toBelow B.size (fun k hk => by omega))
  have d_h1 := row_lt h1
  have d_h2 := row_lt h2
  have d_h3 := row_lt h3
  have d_h4 := row_lt h4
  have d_h5 := row_lt h5
  have d_h6 := row_lt h6
  have d_h7 := row_lt h7
  have d_h8 := row_lt h8
  have d_h9 := row_lt h9
  have d_h10 := row_lt h10
  have d_h11 := row_lt h11
  have d_h12 := row_lt h12
  have d_h13 := row_lt h13
  have d_h14 := row_lt h14
  have z := B.size
  intro w35 e
  have b : Below w34.heap.size w34 w35 := by rw [e]; exact below_row _ _
  have h15 : w35.heap[w34.heap.size]? = some (.cells #[.int .i64 0, .int .i64 0, .int .i64 0, .int .i64 0, .int .i64 0] 58 (0, 0)) := by rw [e]; exact heap_alloc_new w34 _
  clear e
  have q : Gr (fun _ => False) w34 w35 := Gr.below b
  have h1 := q.blk h1 (fun h => h)
  have h2 := q.blk h2 (fun h => h)
  have h3 := q.blk h3 (fun h => h)
  have h4 := q.blk h4 (fun h => h)
  have h5 := q.blk h5 (fun h => h)
  have h6 := q.blk h6 (fun h => h)
  have h7 := q.blk h7 (fun h => h)
  have h8 := q.blk h8 (fun h => h)
  have h9 := q.blk h9 (fun h => h)
  have h10 := q.blk h10 (fun h => h)
  have h11 := q.blk h11 (fun h => h)
  have h12 := q.blk h12 (fun h => h)
  have h13 := q.blk h13 (fun h => h)
  have h14 := q.blk h14 (fun h => h)
  have B := B.trans (b.mono B.size)
  refine ⟨row_hass h15 5 0 (by decide), ?_⟩
  intro w36 e
  have q : Gr (fun k => k = w34.heap.size) w35 w36 := by rw [e]; exact gr_sets _ 0 _
  have h15 : w36.heap[w34.heap.size]? = some (.cells #[.int .i64 1, .int .i64 2, .int .i64 3, .int .i64 4, .int .i64 5] 58 (0, 0)) := by rw [e]; exact row_sets _ 0 h15
  clear e
  have h1 := q.blk h1 (by omega)
  have h2 := q.blk h2 (by omega)
  have h3 := q.blk h3 (by omega)
  have h4 := q.blk h4 (by omega)
  have h5 := q.blk h5 (by omega)
  have h6 := q.blk h6 (by omega)
  have h7 := q.blk h7 (by omega)
  have h8 := q.blk h8 (by omega)
  have h9 := q.blk h9 (by omega)
  have h10 := q.blk h10 (by omega)
  have h11 := q.blk h11 (by omega)
  have h12 := q.blk h12 (by omega)
  have h13 := q.blk h13 (by omega)
  have h14 := q.blk h14 (by omega)
  have B := B.trans (q.toBelow B.size (fun k hk => by omega))
  refine ⟨⟨some ⟨w7.heap.size, 0, none⟩, 1, 1⟩, by rw [add2, row_get h8]; rfl, by omega, by (try dsimp only); omega, ⟨w7.heap.size, 0, none⟩, rfl, ByteArray.mk #[98], by rw [add2, row_get h3]; rfl, fun _ => ?_, fun h => absurd rfl h⟩
  refine ⟨⟨some ⟨w15.heap.size, 0, none⟩, 1, 1⟩, by rw [add_lit, row_get h11]; rfl, by omega, by (try dsimp only); omega, ⟨w15.heap.size, 0, none⟩, rfl, ⟨some ⟨w8.heap.size, 0, none⟩, 1, 1⟩, by rw [add2, row_get h7]; rfl, by omega, by (try dsimp only); omega, ⟨w8.heap.size, 0, none⟩, rfl, -1, by rw [add_lit, row_get h4]; rfl, fun _ => ?_, fun h => absurd rfl h⟩
  refine ⟨⟨some ⟨w29.heap.size, 0, none⟩, 1, 1⟩, by rw [add_lit, row_get h14]; rfl, by omega, by (try dsimp only); omega, ⟨w29.heap.size, 0, none⟩, rfl, 2, by rw [add2, row_get h12]; rfl, fun _ => ?_, fun h => absurd rfl h⟩
  refine ⟨1, by rw [row_get h15]; rfl, 2, by rw [add_lit, row_get h15]; rfl, 3, by rw [add_lit, row_get h15]; rfl, 4, by rw [add_lit, row_get h15]; rfl, fun _ => ?_, fun h => absurd (by decide) h⟩
  refine ⟨5, by rw [add_lit, row_get h15]; rfl, 5, by rw [add_lit, row_get h8]; rfl, ?_⟩
  unfold F3_j1 F3_j2
  refine ⟨_, e27, fun _ => ?_, (fun h => nomatch h)⟩
  refine (C7 h1).mono ?_
  rintro _ w58 ⟨r, rfl, hr, hw⟩
  have h1 : w58.heap[w.heap.size]? = some (.cells #[.int .i64 7, .int .i64 90] 25 (0, 0)) := by rw [hw]; exact h1
  have B : Below w.heap.size w w58 := by rw [hw]; exact below_draw B 1
  clear hw
  refine ⟨r, rfl, fun _ => ?_, fun h' => absurd h' (ne_empty hr)⟩
  refine (C8 1 (.inl rfl) w58).mono ?_
  rintro _ w60 ⟨r2, rfl, hr1, hr2, hw⟩
  rw [hw]
  refine ⟨r2, rfl, fun _ => ⟨fun _ => ⟨7, by rw [row_get h1]; rfl, fun _ => ⟨by decide, B⟩, fun h => absurd rfl h⟩, fun h => absurd rfl h⟩, fun h' => absurd h' (ne_empty hr1)⟩
end Go.Proofs.YtdeficpjcnhdkaaDoor
