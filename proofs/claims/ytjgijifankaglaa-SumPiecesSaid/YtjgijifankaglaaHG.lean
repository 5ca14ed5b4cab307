/- SumTells: every CRC and Of. -/
import Derived.Test.YtjgijifankaglaaHF
import Derived.Test.YtjgijifankaglaaGS7
namespace Go.Proofs.Ytjgijifankaglaa
open Go Go.RowKit Go.Proofs.Ytjgijifankaglaa.SX
set_option linter.unusedVariables false

theorem rd_rowk {w : World} {a : Option Addr} {len cap : Nat} {zs : List Int} {k : IntKind} (h : (a = none ∧ len = 0 ∧ cap = 0 ∧ zs = []) ∨
  ∃ x, a = some x ∧ len ≤ cap ∧ cap ≤ maxLen ∧ zs.length = cap ∧ (∀ i, i < zs.length → w.cell? (x.add i) = some (.int k (zs.getD i 0))) ∧ ∀ n ∈ zs, (Lit.int k n).wf = true) : ∃ xs : List Int, Rd (fun x => .int k x) w ⟨a, len, cap⟩ xs ∧ ∀ x ∈ xs, (Lit.int k x).wf = true := by
  rcases h with ⟨rfl, rfl, rfl, rfl⟩ | ⟨x, rfl, hl, hm, hz, hc, hw⟩
  · exact ⟨[], Rd.nil, fun x hx => by simp at hx⟩
  · refine ⟨zs.take len, ⟨by simp; omega, hl, hm, fun _ => ⟨x, rfl, fun j hj => ?_⟩⟩, fun n hn => hw n (List.mem_of_mem_take hn)⟩
    simp at hj
    rw [hc j (by omega)]
    simp [List.getD, List.getElem?_eq_getElem (show j < zs.length by omega)]
theorem bys_wf {bs : List Int} (h : ∀ x ∈ bs, (Lit.int .u8 x).wf = true) : bys bs := by
  intro x hx
  have := h x hx
  simp [Lit.wf, IntKind.min, IntKind.max, IntKind.signed, IntKind.bits] at this
  omega
/-- the head of what was lent -/
theorem lent_head {w : World} {base : Nat} {l : Sl} {bs : List Int} {m : Nat} (h : Own B8 5 base w l (bs ++ List.replicate m 201)) : bs.length ≤ l.c ∧ Rd B8 w ⟨l.a, bs.length, l.c⟩ bs := by
  have h1 := h.len
  have h2 := h.rd.2.1
  rw [List.length_append] at h1
  have := h.rd.take bs.length (by rw [List.length_append]; omega)
  rw [List.take_left'] at this
  · exact ⟨by omega, this⟩
  · rfl
theorem F7_spec {w : World} {b : Sl} {bs : List Int} (hr : Rd B8 w b bs) (hb : bys bs) (hl : bs.length ≤ 2000000) : Calls Try.prog 7 #[.slice b.a b.n b.c] w (fun e w1 => ∃ (r0 : Bool), e = .returned (.bool r0) ∧ (r0 = true ∧ Below w.heap.size w w1)) := by
  refine F7_sound b (fun r0 w1 => r0 = true ∧ Below w.heap.size w w1) w ?_
  unfold F7
  have hn := hr.1
  refine (C38 w).mono ?_
  rintro _ w3 ⟨_, rfl, rfl, B⟩
  refine ⟨_, rfl, ?_⟩
  have hr3 := hr.below B
  refine (C39 hr3 (by omega)).mono ?_
  rintro _ w5 ⟨l, rfl, ol, bq⟩
  have B := B.trans (bq.mono B.size)
  obtain ⟨hlc, hrl⟩ := lent_head ol
  refine ⟨l, rfl, ⟨l.a, bs.length, l.c⟩, cut_hi (w := w5) ty22 l _ bs.length (by rw [hn]) hlc, ?_⟩
  refine (C40 hrl hb).mono ?_
  rintro _ w8 ⟨_, rfl, rfl, bq⟩
  have B := B.trans (bq.mono B.size)
  have ol := ol.below bq
  have hrl := hrl.below bq
  refine ⟨_, rfl, ⟨l.a, bs.length, l.c⟩, cut_hi (w := w8) ty22 l _ bs.length (by rw [hn]) hlc, ?_⟩
  refine (C41 hrl (by omega)).mono ?_
  rintro _ w11 ⟨_, rfl, rfl, bq⟩
  have B := B.trans (bq.mono B.size)
  have ol := ol.below bq
  refine ⟨_, rfl, ?_⟩
  intro w12 e
  have b12 : Below w11.heap.size w11 w12 := by rw [e]; exact below_row _ _
  obtain ⟨z, hz1, hzs⟩ : ∃ z, w12.heap[w11.heap.size]? = some (.cells z 50 (0, 0)) ∧ z.size = 32 := ⟨_, by rw [e]; exact heap_alloc_new w11 _, by kernel_rfl⟩
  clear e
  obtain ⟨w13, r13, h13, q13⟩ := store_all (P := Try.prog) (T := 50) (k := 32) (vs := digV (ofS KR bs)) hz1 sizes50.2 (digV_size _) hzs (digV_one _)
  refine ⟨w13, r13, ?_⟩
  have zB := B.size
  have B := B.trans (b12.mono B.size)
  have B := B.trans (q13.toBelow (B := w.heap.size) B.size (fun k hk => by (try dsimp only at hk); omega))
  have hlt := ol.blk_ge
  have ol := q13.own (ol.below b12) (fun k hk hk2 => by have := (hlt k hk).2; (try dsimp only at hk2); omega)
  have hr13 := hr.below B
  refine (C42 ol.rd hr13).mono ?_
  rintro _ w15 ⟨_, rfl, rfl, bq⟩
  have B := B.trans (bq.mono B.size)
  have h13 := (Gr.below (S := fun _ => False) bq).blk h13 (fun h => h)
  refine ⟨_, rfl, ?_⟩
  intro w16 hd
  have bq : Below w15.heap.size w15 w16 := by rw [hd]; exact below_draw (Below.refl _ _) 1
  clear hd
  have B := B.trans (bq.mono B.size)
  have h13 := (Gr.below (S := fun _ => False) bq).blk h13 (fun h => h)
  refine ⟨fun _ => ⟨fun _ => ?_, fun h => nomatch h⟩, fun h => nomatch h⟩
  refine (C43 (hr.below B) hb).mono ?_
  rintro _ w18 ⟨_, rfl, rfl, rfl⟩
  refine ⟨_, rfl, fun _ => ?_, fun h => absurd rfl h⟩
  refine ⟨_, load_row h13 sizes50 (digV_size _), ?_⟩
  refine (C44 (hr.below B) hb hl).mono ?_
  rintro _ w21 ⟨_, rfl, rfl, bq⟩
  have B := B.trans (bq.mono B.size)
  have h13 := (Gr.below (S := fun _ => False) bq).blk h13 (fun h => h)
  refine ⟨_, rfl, load_row h13 sizes50 (digV_size _), true, eq_dig _ _ _ _, rfl, B⟩
end Go.Proofs.Ytjgijifankaglaa
