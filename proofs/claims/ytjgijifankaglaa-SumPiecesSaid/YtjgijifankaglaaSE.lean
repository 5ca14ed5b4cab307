/- sum.round: its loops, and the whole. -/
import Derived.Test.YtjgijifankaglaaSD
namespace Go.Proofs.Ytjgijifankaglaa
open Go Go.RowKit Go.Proofs.Ytjgijifankaglaa.SX
set_option linter.unusedVariables false

section
variable {w : World} {b : Sl} {bs : List Int} {k1 : Option Addr} {K : Nat → Int} {s : S8}
theorem l3_79 {Q : Int → Int → Int → Int → Int → Int → Int → Int → World → Prop} {w0 w11 w12 w27 wr : World} (hk : Kat w k1 K)
    (h0 : wr.heap[w0.heap.size]? = some (.cells s.cells 94 (0, 0))) (h1 : ∃ z, wr.heap[w11.heap.size]? = some (.cells z 94 (0, 0)) ∧ z.size = 8) (hW : Wrow wr w12.heap.size bs 64) (h3 : wr.heap[w27.heap.size]? = some (.cells s.cells 94 (0, 0)))
    (h01 : w0.heap.size ≠ w11.heap.size) (h03 : w0.heap.size ≠ w27.heap.size) (h13 : w11.heap.size ≠ w27.heap.size) (h23 : w12.heap.size ≠ w27.heap.size) (hB0 : w.heap.size ≤ w0.heap.size) (hB1 : w.heap.size ≤ w11.heap.size) (hB3 : w.heap.size ≤ w27.heap.size) (hb : Below w.heap.size w wr)
    (hQ : ∀ w', Below w.heap.size w w' → Q (s.block K bs).a (s.block K bs).b (s.block K bs).c (s.block K bs).d (s.block K bs).e (s.block K bs).f (s.block K bs).g (s.block K bs).h w') : kLoop (F79_l3 k1 Q w0 w11 w12 w27) 0 wr := by
  refine ⟨fun st wq => ∃ i : Nat, st = (i : Int) ∧ i ≤ 64 ∧ wq.heap[w0.heap.size]? = some (.cells s.cells 94 (0, 0)) ∧ (∃ z, wq.heap[w11.heap.size]? = some (.cells z 94 (0, 0)) ∧ z.size = 8) ∧ Wrow wq w12.heap.size bs 64 ∧ wq.heap[w27.heap.size]? = some (.cells (s.run K (Wt bs) i).cells 94 (0, 0)) ∧ Below w.heap.size w wq, fun st _ => (64 - st).toNat, ⟨0, rfl, by omega, h0, h1, hW, h3, hb⟩, ?_⟩
  rintro _ wq ⟨i, rfl, hi, h0, h1, hW, h3, hb⟩
  unfold F79_l3
  refine ⟨fun hlt => ?_, fun hge => ?_⟩
  · have hi64 : i < 64 := by omega
    obtain ⟨ka, hka, hkc⟩ := hk.below hb
    have hrun : s.run K (Wt bs) (i + 1) = (s.run K (Wt bs) i).step (K i) (Wt bs i) := rfl
    generalize s.run K (Wt bs) i = t at h3 hrun
    refine ⟨t.a, by rw [row_get h3]; rfl, t.b, by rw [add_lit, row_get h3]; rfl, t.c, by rw [add_lit, row_get h3]; rfl, t.e, by rw [add_lit, row_get h3]; rfl, t.f, by rw [add_lit, row_get h3]; rfl, t.g, by rw [add_lit, row_get h3]; rfl, ?_⟩
    rintro w61 ⟨m, hm⟩ w62 hm2
    have bq : Below wq.heap.size wq w62 := by rw [hm2, hm]; exact below_draw (below_draw (Below.refl _ _) m) 1
    clear hm hm2
    have q0 := Gr.below (S := fun _ => False) bq
    have h3 := q0.blk h3 (fun h => h)
    have h0 := q0.blk h0 (fun h => h)
    obtain ⟨z, hz, hzs⟩ := h1
    have hz := q0.blk hz (fun h => h)
    have hW := hW.gr q0 (fun h => h)
    have hb : Below w.heap.size w w62 := hb.trans (bq.mono hb.size)
    obtain ⟨ka', hka', hkc'⟩ := hk.below hb
    obtain rfl : ka = ka' := Option.some.inj (hka.symm.trans hka')
    have c7 : w62.cell? ((⟨w27.heap.size, 0, none⟩ : Addr).add 7) = some (.int .u32 t.h) := by rw [add_lit, row_get h3]; rfl
    have ck : w62.cell? (ka.add (Int.toNat (i : Int))) = some (.int .u32 (K i)) := by rw [Int.toNat_natCast]; exact hkc' i hi64
    have cw : w62.cell? ((⟨w12.heap.size, 0, none⟩ : Addr).add (Int.toNat (i : Int))) = some (.int .u32 (Wt bs i)) := by rw [Int.toNat_natCast]; exact hW.cell hi64
    refine ⟨t.h, c7, ka, hka, by omega, hlt, K i, ck, by omega, hlt, Wt bs i, cw, ?_⟩
    refine (C99 t.e 6 w62 (by kernel_rfl) (by omega) (by omega)).mono ?_
    rintro _ x1 ⟨_, rfl, rfl, hw⟩
    rw [hw]; clear hw
    refine ⟨_, rfl, cw, ck, c7, (C99 t.e 11 w62 (by kernel_rfl) (by omega) (by omega)).mono ?_⟩
    rintro _ x2 ⟨_, rfl, rfl, hw⟩
    rw [hw]; clear hw
    refine ⟨_, rfl, cw, ck, c7, (C99 t.e 25 w62 (by kernel_rfl) (by omega) (by omega)).mono ?_⟩
    rintro _ x3 ⟨_, rfl, rfl, hw⟩
    rw [hw]; clear hw
    refine ⟨_, rfl, cw, ck, c7, (C99 t.a 2 w62 (by kernel_rfl) (by omega) (by omega)).mono ?_⟩
    rintro _ x4 ⟨_, rfl, rfl, hw⟩
    rw [hw]; clear hw
    refine ⟨_, rfl, (C99 t.a 13 w62 (by kernel_rfl) (by omega) (by omega)).mono ?_⟩
    rintro _ x5 ⟨_, rfl, rfl, hw⟩
    rw [hw]; clear hw
    refine ⟨_, rfl, (C99 t.a 22 w62 (by kernel_rfl) (by omega) (by omega)).mono ?_⟩
    rintro _ x6 ⟨_, rfl, rfl, hw⟩
    rw [hw]; clear hw
    refine ⟨_, rfl, t.d, by rw [add_lit, row_get h3]; rfl, row_hass h3 8 0 (by show 8 ≤ 8; omega), ?_⟩
    intro w80 e
    obtain ⟨h3n, q⟩ := set8 h3 rfl (t.step (K i) (Wt bs i)) e
    rw [w_i64 (by omega) (by omega)]
    refine ⟨⟨i + 1, by omega, by omega, q.blk h0 (by (try dsimp only); omega), ⟨z, q.blk hz (by (try dsimp only); omega), hzs⟩, hW.gr q (by (try dsimp only); omega), by rw [hrun]; exact h3n, hb.trans (q.toBelow hb.size (fun k hk => by (try dsimp only at hk); omega))⟩, by (try dsimp only); omega⟩
  · have hi64 : i = 64 := by omega
    subst hi64
    exact l4_79 (B := w.heap.size) rfl rfl rfl h0 h1 h3 h01 h03 h13 hB0 hB1 hb hb.size (fun w' hb' => hQ w' hb')
theorem l2_79 {Q : Int → Int → Int → Int → Int → Int → Int → Int → World → Prop} {w0 w11 w12 wr : World} (hk : Kat w k1 K)
    (h0 : wr.heap[w0.heap.size]? = some (.cells s.cells 94 (0, 0))) (h1 : ∃ z, wr.heap[w11.heap.size]? = some (.cells z 94 (0, 0)) ∧ z.size = 8) (hW : Wrow wr w12.heap.size bs 16)
    (h01 : w0.heap.size < w11.heap.size) (h12 : w11.heap.size < w12.heap.size) (hB0 : w.heap.size ≤ w0.heap.size) (hb : Below w.heap.size w wr)
    (hQ : ∀ w', Below w.heap.size w w' → Q (s.block K bs).a (s.block K bs).b (s.block K bs).c (s.block K bs).d (s.block K bs).e (s.block K bs).f (s.block K bs).g (s.block K bs).h w') : kLoop (F79_l2 k1 Q w0 w11 w12) 16 wr := by
  refine ⟨fun st wq => ∃ i : Nat, st = (i : Int) ∧ 16 ≤ i ∧ i ≤ 64 ∧ wq.heap[w0.heap.size]? = some (.cells s.cells 94 (0, 0)) ∧ (∃ z, wq.heap[w11.heap.size]? = some (.cells z 94 (0, 0)) ∧ z.size = 8) ∧ Wrow wq w12.heap.size bs i ∧ Below w.heap.size w wq, fun st _ => (64 - st).toNat, ⟨16, rfl, by omega, by omega, h0, h1, hW, hb⟩, ?_⟩
  rintro _ wq ⟨i, rfl, hi16, hi, h0, h1, hW, hb⟩
  unfold F79_l2
  refine ⟨fun hlt => ?_, fun hge => ?_⟩
  · have hi64 : i < 64 := by omega
    have e2 : IntKind.i64.wrap ((i : Int) - 2) = ((i - 2 : Nat) : Int) := by rw [w_i64 (by omega) (by omega)]; omega
    have e15 : IntKind.i64.wrap ((i : Int) - 15) = ((i - 15 : Nat) : Int) := by rw [w_i64 (by omega) (by omega)]; omega
    have e7 : IntKind.i64.wrap ((i : Int) - 7) = ((i - 7 : Nat) : Int) := by rw [w_i64 (by omega) (by omega)]; omega
    have e16 : IntKind.i64.wrap ((i : Int) - 16) = ((i - 16 : Nat) : Int) := by rw [w_i64 (by omega) (by omega)]; omega
    rw [e2, e15, e7, e16]
    simp only [Int.toNat_natCast]
    refine ⟨by omega, by omega, _, hW.cell (by omega), by omega, by omega, _, hW.cell (by omega), ?_⟩
    rintro w30 ⟨m, hm⟩
    have bq : Below wq.heap.size wq w30 := by rw [hm]; exact below_draw (Below.refl _ _) m
    clear hm
    refine (C99 (Wt bs (i - 2)) 17 w30 (by kernel_rfl) (by omega) (by omega)).mono ?_
    rintro _ x1 ⟨_, rfl, rfl, hw⟩
    rw [hw]; clear hw
    refine ⟨_, rfl, (C99 (Wt bs (i - 2)) 19 w30 (by kernel_rfl) (by omega) (by omega)).mono ?_⟩
    rintro _ x2 ⟨_, rfl, rfl, hw⟩
    rw [hw]; clear hw
    refine ⟨_, rfl, (C99 (Wt bs (i - 15)) 7 w30 (by kernel_rfl) (by omega) (by omega)).mono ?_⟩
    rintro _ x3 ⟨_, rfl, rfl, hw⟩
    rw [hw]; clear hw
    refine ⟨_, rfl, (C99 (Wt bs (i - 15)) 18 w30 (by kernel_rfl) (by omega) (by omega)).mono ?_⟩
    rintro _ x4 ⟨_, rfl, rfl, hw⟩
    rw [hw]; clear hw
    refine ⟨_, rfl, ?_⟩
    intro w39 hm
    have bq : Below wq.heap.size wq w39 := by rw [hm]; exact below_draw bq 1
    clear hm
    have q0 := Gr.below (S := fun _ => False) bq
    have h0 := q0.blk h0 (fun h => h)
    obtain ⟨z, hz, hzs⟩ := h1
    have hz := q0.blk hz (fun h => h)
    have hW := hW.gr q0 (fun h => h)
    have hb : Below w.heap.size w w39 := hb.trans (bq.mono hb.size)
    refine ⟨by omega, by omega, _, hW.cell (by omega), by omega, by omega, _, hW.cell (by omega), by omega, hlt, hW.has hi64, ?_⟩
    intro w42 e
    obtain ⟨hWn, q⟩ := hW.set hi64 (by rw [Wt_hi (i := i) (by omega)]; rfl) e
    rw [w_i64 (by omega) (by omega)]
    exact ⟨⟨i + 1, by omega, by omega, by omega, q.blk h0 (by (try dsimp only); omega), ⟨z, q.blk hz (by (try dsimp only); omega), hzs⟩, hWn, hb.trans (q.toBelow hb.size (fun k hk => by (try dsimp only at hk); omega))⟩, by (try dsimp only); omega⟩
  · have hi64 : i = 64 := by omega
    subst hi64
    refine ⟨_, _, _, _, _, _, _, _, row_cellsAt h0, ?_⟩
    have d0 := row_lt h0
    obtain ⟨z, hz, hzs⟩ := h1
    have d1 := row_lt hz
    have d2 := hW.lt
    have zb := hb.size
    intro w51 e
    have bq : Below wq.heap.size wq w51 := by rw [e]; exact below_row _ _
    have hz3 : w51.heap[wq.heap.size]? = some (.cells #[.int .u32 0, .int .u32 0, .int .u32 0, .int .u32 0, .int .u32 0, .int .u32 0, .int .u32 0, .int .u32 0] 94 (0, 0)) := by rw [e]; exact heap_alloc_new wq _
    clear e
    have q0 := Gr.below (S := fun _ => False) bq
    have h0 := q0.blk h0 (fun h => h)
    have hz := q0.blk hz (fun h => h)
    have hW := hW.gr q0 (fun h => h)
    have hb : Below w.heap.size w w51 := hb.trans (bq.mono hb.size)
    refine ⟨row_hass hz3 8 0 (by show 8 ≤ 8; omega), ?_⟩
    intro w52 e
    obtain ⟨h3, q⟩ := set8 hz3 rfl s e
    exact l3_79 hk (q.blk h0 (by (try dsimp only); omega)) ⟨z, q.blk hz (by (try dsimp only); omega), hzs⟩ (hW.gr q (by (try dsimp only); omega)) h3 (by omega) (by omega) (by omega) (by omega) hB0 (by omega) (by omega) (hb.trans (q.toBelow hb.size (fun k hk => by (try dsimp only at hk); omega))) hQ
theorem C79 (hk : Kat w k1 K) (h : Rd B8 w b bs) (hl : bs.length = 64) : Calls Try.prog 79 #[.agg s.cells, .pointer k1, .slice b.a b.n b.c] w (fun e w1 => e = .returned (.agg (s.block K bs).cells) ∧ Below w.heap.size w w1) := by
  refine (F79_sound s.a s.b s.c s.d s.e s.f s.g s.h k1 b (fun a b c d e f g h w1 => a = (s.block K bs).a ∧ b = (s.block K bs).b ∧ c = (s.block K bs).c ∧ d = (s.block K bs).d ∧ e = (s.block K bs).e ∧ f = (s.block K bs).f ∧ g = (s.block K bs).g ∧ h = (s.block K bs).h ∧ Below w.heap.size w w1) w ?_).mono (by
    rintro _ w1 ⟨_, _, _, _, _, _, _, _, rfl, rfl, rfl, rfl, rfl, rfl, rfl, rfl, rfl, hb⟩
    exact ⟨rfl, hb⟩)
  unfold F79
  have hn := h.1
  intro w11 e
  have b1 : Below w.heap.size w w11 := by rw [e]; exact below_row _ _
  have h0 : w11.heap[w.heap.size]? = some (.cells s.cells 94 (0, 0)) := by rw [e]; exact heap_alloc_new w _
  clear e
  have d0 := row_lt h0
  intro w12 e
  have b2 : Below w11.heap.size w11 w12 := by rw [e]; exact below_row _ _
  obtain ⟨z, hz, hzs⟩ : ∃ z, w12.heap[w11.heap.size]? = some (.cells z 94 (0, 0)) ∧ z.size = 8 := ⟨_, by rw [e]; exact heap_alloc_new w11 _, by kernel_rfl⟩
  clear e
  have d1 := row_lt hz
  intro w13 e
  have b3 : Below w12.heap.size w12 w13 := by rw [e]; exact below_row _ _
  obtain ⟨z6, hz6, hzs6⟩ : ∃ z, w13.heap[w12.heap.size]? = some (.cells z 96 (0, 0)) ∧ z.size = 64 := ⟨_, by rw [e]; exact heap_alloc_new w12 _, by kernel_rfl⟩
  clear e
  have q2 := Gr.below (S := fun _ => False) b2
  have q3 := Gr.below (S := fun _ => False) b3
  have h0 := q3.blk (q2.blk h0 (fun h => h)) (fun h => h)
  have hz := q3.blk hz (fun h => h)
  have B := b1.trans (b2.mono b1.size)
  have B := B.trans (b3.mono B.size)
  refine ⟨fun st wq => ∃ i : Nat, st = (i : Int) ∧ i ≤ 16 ∧ wq.heap[w.heap.size]? = some (.cells s.cells 94 (0, 0)) ∧ (∃ z, wq.heap[w11.heap.size]? = some (.cells z 94 (0, 0)) ∧ z.size = 8) ∧ Wrow wq w12.heap.size bs i ∧ Below w.heap.size w wq, fun st _ => (16 - st).toNat, ⟨0, rfl, by omega, h0, ⟨z, hz, hzs⟩, ⟨z6, hz6, hzs6, fun j hj => by omega⟩, B⟩, ?_⟩
  rintro _ wq ⟨i, rfl, hi, h0, h1, hW, hb⟩
  unfold F79_l1
  refine ⟨fun hlt => ?_, fun hge => ?_⟩
  · intro w16 hm
    have bq : Below wq.heap.size wq w16 := by rw [hm]; exact below_draw (Below.refl _ _) 1
    clear hm
    have q0 := Gr.below (S := fun _ => False) bq
    have h0 := q0.blk h0 (fun h => h)
    obtain ⟨z, hz, hzs⟩ := h1
    have hz := q0.blk hz (fun h => h)
    have hW := hW.gr q0 (fun h => h)
    have hb : Below w.heap.size w w16 := hb.trans (bq.mono hb.size)
    have e0 : IntKind.i64.wrap (4 * (i : Int)) = ((4 * i : Nat) : Int) := by rw [w_i64 (by omega) (by omega)]; omega
    have e1 : IntKind.i64.wrap (((4 * i : Nat) : Int) + 1) = ((4 * i + 1 : Nat) : Int) := by rw [w_i64 (by omega) (by omega)]; omega
    have e2 : IntKind.i64.wrap (((4 * i : Nat) : Int) + 2) = ((4 * i + 2 : Nat) : Int) := by rw [w_i64 (by omega) (by omega)]; omega
    have e3 : IntKind.i64.wrap (((4 * i : Nat) : Int) + 3) = ((4 * i + 3 : Nat) : Int) := by rw [w_i64 (by omega) (by omega)]; omega
    rw [e0, e1, e2, e3]
    simp only [Int.toNat_natCast]
    obtain ⟨a0, p0, c0⟩ := rdg (h.below hb) (j := 4 * i) (by omega)
    obtain ⟨a1, p1, c1⟩ := rdg (h.below hb) (j := 4 * i + 1) (by omega)
    obtain ⟨a2, p2, c2⟩ := rdg (h.below hb) (j := 4 * i + 2) (by omega)
    obtain ⟨a3, p3, c3⟩ := rdg (h.below hb) (j := 4 * i + 3) (by omega)
    refine ⟨by omega, by omega, a0, p0, _, c0, by omega, by omega, a1, p1, _, c1, by omega, by omega, a2, p2, _, c2, by omega, by omega, a3, p3, _, c3, by omega, by omega, hW.has (by omega), ?_⟩
    intro w25 e
    obtain ⟨hWn, q⟩ := hW.set (by omega) (by rw [Wt_lo (i := i) (by omega)]; rfl) e
    rw [w_i64 (by omega) (by omega)]
    exact ⟨⟨i + 1, by omega, by omega, q.blk h0 (by (try dsimp only); omega), ⟨z, q.blk hz (by (try dsimp only); omega), hzs⟩, hWn, hb.trans (q.toBelow hb.size (fun k hk => by (try dsimp only at hk); omega))⟩, by (try dsimp only); omega⟩
  · have hi16 : i = 16 := by omega
    subst hi16
    exact l2_79 hk h0 h1 hW d0 d1 (Nat.le_refl _) hb (fun w' hb' => ⟨rfl, rfl, rfl, rfl, rfl, rfl, rfl, rfl, hb'⟩)
end
end Go.Proofs.Ytjgijifankaglaa
