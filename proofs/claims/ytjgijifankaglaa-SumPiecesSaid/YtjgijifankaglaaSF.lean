/- The document's block of SHA-256. -/
import Derived.Test.YtjgijifankaglaaSE
namespace Go.Proofs.Ytjgijifankaglaa
open Go Go.RowKit Go.Proofs.Ytjgijifankaglaa.SX
set_option linter.unusedVariables false

def KL : List Int := [1116352408, 1899447441, 3049323471, 3921009573, 961987163, 1508970993, 2453635748, 2870763221, 3624381080, 310598401, 607225278, 1426881987, 1925078388, 2162078206, 2614888103, 3248222580, 3835390401, 4022224774, 264347078, 604807628, 770255983, 1249150122, 1555081692, 1996064986, 2554220882, 2821834349, 2952996808, 3210313671, 3336571891, 3584528711, 113926993, 338241895, 666307205, 773529912, 1294757372, 1396182291, 1695183700, 1986661051, 2177026350, 2456956037, 2730485921, 2820302411, 3259730800, 3345764771, 3516065817, 3600352804, 4094571909, 275423344, 430227734, 506948616, 659060556, 883997877, 958139571, 1322822218, 1537002063, 1747873779, 1955562222, 2024104815, 2227730452, 2361852424, 2428436474, 2756734187, 3204031479, 3329325298]
def KR (i : Nat) : Int := KL.getD i 0
theorem KL_len : KL.length = 64 := by rfl
theorem KL_row (w : World) (cs : Array Value) (hc : cs = (KL.map (Value.int .u32)).toArray) {g e : Nat} (h : w.heap[g]? = some (.cells cs e (0, 0))) : Kat w (some ⟨g, 0, none⟩) KR := by
  refine ⟨_, rfl, fun i hi => ?_⟩
  have hl := KL_len
  rw [add_lit, row_get h, hc]
  unfold KR
  simp [show i < KL.length by omega]
section
variable {w : World} {b : Sl} {bs : List Int} {s : S8}
theorem C96 (w : World) : Calls Try.prog 96 #[] w (fun e w1 => ∃ (r0 : Sl), e = .returned (.slice r0.a r0.n r0.c) ∧ (r0.n = 64 ∧ Kat w1 r0.a KR ∧ Below w.heap.size w w1)) := by
  refine F96_sound (fun r0 w1 => r0.n = 64 ∧ Kat w1 r0.a KR ∧ Below w.heap.size w w1) w ?_
  unfold F96
  intro w1 e
  refine ⟨rfl, ?_, by rw [e]; exact below_row _ _⟩
  exact KL_row w1 _ (by kernel_rfl) (by rw [e]; exact heap_alloc_new w _)
theorem l4_77 {Q : Int → Int → Int → Int → Int → Int → Int → Int → World → Prop} {g0 g1 g3 : Nat} {w0 w11 w27 wr : World} {t : S8} (e0 : g0 = w0.heap.size) (e1 : g1 = w11.heap.size) (e3 : g3 = w27.heap.size)
    (h0 : wr.heap[g0]? = some (.cells s.cells 94 (0, 0))) (h1 : ∃ z, wr.heap[g1]? = some (.cells z 94 (0, 0)) ∧ z.size = 8) (h3 : wr.heap[g3]? = some (.cells t.cells 94 (0, 0))) (h01 : g0 ≠ g1) (h03 : g0 ≠ g3) (h13 : g1 ≠ g3) {B : Nat} (hB0 : B ≤ g0) (hB1 : B ≤ g1) (hb : Below B w wr) (hBs : B ≤ wr.heap.size)
    (hQ : ∀ w', Below B w w' → Q (s.add t).a (s.add t).b (s.add t).c (s.add t).d (s.add t).e (s.add t).f (s.add t).g (s.add t).h w') : kLoop (F77_l4 Q w0 w11 w27) 0 wr := by
  subst e0 e1 e3
  refine ⟨fun st wq => ∃ i : Nat, st = (i : Int) ∧ i ≤ 8 ∧ Arow wq w0.heap.size s t i ∧ (∃ z, wq.heap[w11.heap.size]? = some (.cells z 94 (0, 0)) ∧ z.size = 8) ∧ wq.heap[w27.heap.size]? = some (.cells t.cells 94 (0, 0)) ∧ Below B w wq ∧ B ≤ wq.heap.size, fun st _ => (8 - st).toNat, ⟨0, rfl, by omega, ⟨_, h0, rfl, fun j hj => by rw [cells_at s hj]; simp⟩, h1, h3, hb, hBs⟩, ?_⟩
  rintro _ wq ⟨i, rfl, hi, hA, h1, h3, hb, hBs⟩
  unfold F77_l4
  refine ⟨fun hlt => ?_, fun hge => ?_⟩
  · rintro _ rfl
    have h3' : wq.drew.heap[w27.heap.size]? = some (.cells t.cells 94 (0, 0)) := h3
    obtain ⟨cs, c1, c2, c3⟩ := hA
    have c1' : wq.drew.heap[w0.heap.size]? = some (.cells cs 94 (0, 0)) := c1
    have hi8 : i < 8 := by omega
    have hci := c3 i hi8
    rw [if_neg (by omega)] at hci
    rw [Int.toNat_natCast, add_lit, add_lit]
    refine ⟨by omega, hlt, _, by rw [row_get c1']; exact hci, by omega, hlt, _, by rw [row_get h3']; exact cells_at t hi8, by omega, hlt, row_has c1' (by omega), ?_⟩
    intro w86 e
    have q := gr_set wq.drew ⟨w0.heap.size, i, none⟩ (.int .u32 (IntKind.u32.wrap (s.at i + t.at i)))
    have hc' := row_set c1' (j := i) (.int .u32 (IntKind.u32.wrap (s.at i + t.at i)))
    rw [← e] at q hc'
    have bd := below_draw hb 1
    rw [w_i64 (by omega) (by omega)]
    obtain ⟨z, hz, hzs⟩ := h1
    have hsz := q.size
    refine ⟨⟨i + 1, by omega, by omega, ⟨_, hc', by simpa using c2, fun j hj => ?_⟩, ⟨z, q.blk (show wq.drew.heap[w11.heap.size]? = _ from hz) (by (try dsimp only); omega), hzs⟩, q.blk h3' (by (try dsimp only); omega), bd.trans (q.toBelow hBs (fun k hk => by (try dsimp only at hk); omega)), Nat.le_trans hBs hsz⟩, by (try dsimp only); omega⟩
    by_cases hji : j = i
    · subst hji
      rw [Array.getElem?_setIfInBounds_self_of_lt (by omega), if_pos (by omega), add_at s t hj]
    · rw [Array.getElem?_setIfInBounds_ne (by omega), c3 j hj]
      by_cases hlt' : j < i
      · rw [if_pos hlt', if_pos (by omega)]
      · rw [if_neg hlt', if_neg (by omega)]
  · have hi8 : i = 8 := by omega
    subst hi8
    obtain ⟨cs, c1, c2, c3⟩ := hA
    have hcs : cs = (s.add t).cells := cells_of c2 (fun j hj => by rw [c3 j hj, if_pos hj])
    subst hcs
    obtain ⟨z, hz, hzs⟩ := h1
    refine ⟨_, _, _, _, _, _, _, _, row_cellsAt c1, row_hass hz 8 0 (by omega), ?_⟩
    intro w95 e
    obtain ⟨hr, q⟩ := set8 hz hzs (s.add t) e
    exact ⟨_, _, _, _, _, _, _, _, row_cellsAt hr, hQ w95 (hb.trans (q.toBelow hBs (fun k hk => by (try dsimp only at hk); omega)))⟩
theorem l3_77 {Q : Int → Int → Int → Int → Int → Int → Int → Int → World → Prop} {w0 w11 w12 w27 wr : World} {K : Nat → Int} {sk : Sl} {wk : World} (hsk : sk.n = 64) (hk : Kat wk sk.a K) (hBk : wk.heap.size ≤ w27.heap.size) (hbk : Below wk.heap.size wk wr)
    (h0 : wr.heap[w0.heap.size]? = some (.cells s.cells 94 (0, 0))) (h1 : ∃ z, wr.heap[w11.heap.size]? = some (.cells z 94 (0, 0)) ∧ z.size = 8) (hW : Wrow wr w12.heap.size bs 64) (h3 : wr.heap[w27.heap.size]? = some (.cells s.cells 94 (0, 0)))
    (h01 : w0.heap.size ≠ w11.heap.size) (h03 : w0.heap.size ≠ w27.heap.size) (h13 : w11.heap.size ≠ w27.heap.size) (h23 : w12.heap.size ≠ w27.heap.size) (hB0 : w.heap.size ≤ w0.heap.size) (hB1 : w.heap.size ≤ w11.heap.size) (hB3 : w.heap.size ≤ w27.heap.size) (hb : Below w.heap.size w wr)
    (hQ : ∀ w', Below w.heap.size w w' → Q (s.block K bs).a (s.block K bs).b (s.block K bs).c (s.block K bs).d (s.block K bs).e (s.block K bs).f (s.block K bs).g (s.block K bs).h w') : kLoop (F77_l3 Q w0 w11 w12 sk w27) 0 wr := by
  refine ⟨fun st wq => ∃ i : Nat, st = (i : Int) ∧ i ≤ 64 ∧ wq.heap[w0.heap.size]? = some (.cells s.cells 94 (0, 0)) ∧ (∃ z, wq.heap[w11.heap.size]? = some (.cells z 94 (0, 0)) ∧ z.size = 8) ∧ Wrow wq w12.heap.size bs 64 ∧ wq.heap[w27.heap.size]? = some (.cells (s.run K (Wt bs) i).cells 94 (0, 0)) ∧ Below w.heap.size w wq ∧ Below wk.heap.size wk wq, fun st _ => (64 - st).toNat, ⟨0, rfl, by omega, h0, h1, hW, h3, hb, hbk⟩, ?_⟩
  rintro _ wq ⟨i, rfl, hi, h0, h1, hW, h3, hb, hbk⟩
  unfold F77_l3
  refine ⟨fun hlt => ?_, fun hge => ?_⟩
  · have hi64 : i < 64 := by omega
    have hrun : s.run K (Wt bs) (i + 1) = (s.run K (Wt bs) i).step (K i) (Wt bs i) := rfl
    generalize s.run K (Wt bs) i = t at h3 hrun
    intro w55 hm
    have bq : Below wq.heap.size wq w55 := by rw [hm]; exact below_draw (Below.refl _ _) 1
    clear hm
    have q0 := Gr.below (S := fun _ => False) bq
    have h3 := q0.blk h3 (fun h => h)
    have h0 := q0.blk h0 (fun h => h)
    obtain ⟨z, hz, hzs⟩ := h1
    have hz := q0.blk hz (fun h => h)
    have hW := hW.gr q0 (fun h => h)
    have hb : Below w.heap.size w w55 := hb.trans (bq.mono hb.size)
    have hbk : Below wk.heap.size wk w55 := hbk.trans (bq.mono hbk.size)
    clear q0 bq
    obtain ⟨ka, hka, hkc⟩ := hk.below hbk
    have cs : ∀ (x : World), Below w55.heap.size w55 x → (x.heap[w27.heap.size]? = some (.cells t.cells 94 (0, 0)) ∧ x.cell? (⟨w27.heap.size, 0, none⟩ : Addr) = some (.int .u32 t.a) ∧ x.cell? ((⟨w27.heap.size, 0, none⟩ : Addr).add 1) = some (.int .u32 t.b) ∧ x.cell? ((⟨w27.heap.size, 0, none⟩ : Addr).add 2) = some (.int .u32 t.c) ∧ x.cell? ((⟨w27.heap.size, 0, none⟩ : Addr).add 3) = some (.int .u32 t.d) ∧ x.cell? ((⟨w27.heap.size, 0, none⟩ : Addr).add 4) = some (.int .u32 t.e) ∧ x.cell? ((⟨w27.heap.size, 0, none⟩ : Addr).add 5) = some (.int .u32 t.f) ∧ x.cell? ((⟨w27.heap.size, 0, none⟩ : Addr).add 6) = some (.int .u32 t.g) ∧ x.cell? ((⟨w27.heap.size, 0, none⟩ : Addr).add 7) = some (.int .u32 t.h) ∧ x.cell? (ka.add (Int.toNat (i : Int))) = some (.int .u32 (K i)) ∧ x.cell? ((⟨w12.heap.size, 0, none⟩ : Addr).add (Int.toNat (i : Int))) = some (.int .u32 (Wt bs i))) := by
      intro x hx
      have q := Gr.below (S := fun _ => False) hx
      have h3 := q.blk h3 (fun h => h)
      have hW := hW.gr q (fun h => h)
      refine ⟨h3, by rw [row_get h3]; rfl, by rw [add_lit, row_get h3]; rfl, by rw [add_lit, row_get h3]; rfl, by rw [add_lit, row_get h3]; rfl, by rw [add_lit, row_get h3]; rfl, by rw [add_lit, row_get h3]; rfl, by rw [add_lit, row_get h3]; rfl, by rw [add_lit, row_get h3]; rfl, ?_, by rw [Int.toNat_natCast]; exact hW.cell hi64⟩
      rw [Int.toNat_natCast, hx.cell (World.block_lt_of_cell? w55 _ (hkc i hi64))]
      exact hkc i hi64
    have X : Below w55.heap.size w55 w55 := Below.refl _ _
    obtain ⟨hr, c0, c1, c2, c3, c4, c5, c6, c7, ck, cw⟩ := cs _ X
    refine ⟨_, c7, _, c4, _, c4, _, c4, _, c4, _, c5, _, c4, _, c6, by omega, by omega, ka, hka, _, ck, by omega, hlt, _, cw, ?_⟩
    refine (C95 t.e 6 _ (by omega) (by omega)).mono ?_
    rintro _ x1 ⟨_, rfl, rfl, m, hw⟩
    have X : Below w55.heap.size w55 x1 := by rw [hw]; exact below_draw X m
    clear hw
    obtain ⟨hr, c0, c1, c2, c3, c4, c5, c6, c7, ck, cw⟩ := cs _ X
    refine ⟨_, rfl, cw, ck, c6, c4, c5, c4, c4, c4, c7, ?_⟩
    refine (C95 t.e 11 _ (by omega) (by omega)).mono ?_
    rintro _ x2 ⟨_, rfl, rfl, m, hw⟩
    have X : Below w55.heap.size w55 x2 := by rw [hw]; exact below_draw X m
    clear hw
    obtain ⟨hr, c0, c1, c2, c3, c4, c5, c6, c7, ck, cw⟩ := cs _ X
    refine ⟨_, rfl, cw, ck, c6, c4, c5, c4, c4, c7, ?_⟩
    refine (C95 t.e 25 _ (by omega) (by omega)).mono ?_
    rintro _ x3 ⟨_, rfl, rfl, m, hw⟩
    have X : Below w55.heap.size w55 x3 := by rw [hw]; exact below_draw X m
    clear hw
    obtain ⟨hr, c0, c1, c2, c3, c4, c5, c6, c7, ck, cw⟩ := cs _ X
    refine ⟨_, rfl, cw, ck, c6, c4, c5, c4, c7, ?_⟩
    intro x4 hm
    have X : Below w55.heap.size w55 x4 := by rw [hm]; exact below_draw X 1
    clear hm
    obtain ⟨hr, c0, c1, c2, c3, c4, c5, c6, c7, ck, cw⟩ := cs _ X
    refine ⟨_, c0, _, c0, _, c0, _, c0, _, c1, _, c0, _, c2, _, c1, _, c2, ?_⟩
    refine (C95 t.a 2 _ (by omega) (by omega)).mono ?_
    rintro _ x5 ⟨_, rfl, rfl, m, hw⟩
    have X : Below w55.heap.size w55 x5 := by rw [hw]; exact below_draw X m
    clear hw
    obtain ⟨hr, c0, c1, c2, c3, c4, c5, c6, c7, ck, cw⟩ := cs _ X
    refine ⟨_, rfl, c2, c1, c2, c0, c1, c0, c0, c0, ?_⟩
    refine (C95 t.a 13 _ (by omega) (by omega)).mono ?_
    rintro _ x6 ⟨_, rfl, rfl, m, hw⟩
    have X : Below w55.heap.size w55 x6 := by rw [hw]; exact below_draw X m
    clear hw
    obtain ⟨hr, c0, c1, c2, c3, c4, c5, c6, c7, ck, cw⟩ := cs _ X
    refine ⟨_, rfl, c2, c1, c2, c0, c1, c0, c0, ?_⟩
    refine (C95 t.a 22 _ (by omega) (by omega)).mono ?_
    rintro _ x7 ⟨_, rfl, rfl, m, hw⟩
    have X : Below w55.heap.size w55 x7 := by rw [hw]; exact below_draw X m
    clear hw
    obtain ⟨hr, c0, c1, c2, c3, c4, c5, c6, c7, ck, cw⟩ := cs _ X
    refine ⟨_, rfl, c2, c1, c2, c0, c1, c0, ?_⟩
    refine ⟨_, c0, _, c1, _, c2, _, c3, _, c4, _, c5, _, c6, row_hass hr 8 0 (by show 8 ≤ 8; omega), ?_⟩
    intro w80 e
    have qx := Gr.below (S := fun _ => False) X
    have h0 := qx.blk h0 (fun h => h)
    have hz := qx.blk hz (fun h => h)
    have hW := hW.gr qx (fun h => h)
    have hb : Below w.heap.size w x7 := hb.trans (X.mono hb.size)
    have hbk : Below wk.heap.size wk x7 := hbk.trans (X.mono hbk.size)
    obtain ⟨h3n, q⟩ := set8 hr rfl (t.step (K i) (Wt bs i)) e
    rw [w_i64 (by omega) (by omega)]
    refine ⟨⟨i + 1, by omega, by omega, q.blk h0 (by (try dsimp only); omega), ⟨z, q.blk hz (by (try dsimp only); omega), hzs⟩, hW.gr q (by (try dsimp only); omega), by rw [hrun]; exact h3n, hb.trans (q.toBelow hb.size (fun k hk => by (try dsimp only at hk); omega)), hbk.trans (q.toBelow hbk.size (fun k hk => by (try dsimp only at hk); omega))⟩, by (try dsimp only); omega⟩
  · have hi64 : i = 64 := by omega
    subst hi64
    exact l4_77 (B := w.heap.size) rfl rfl rfl h0 h1 h3 h01 h03 h13 hB0 hB1 hb hb.size (fun w' hb' => hQ w' hb')
theorem l2_77 {Q : Int → Int → Int → Int → Int → Int → Int → Int → World → Prop} {w0 w11 w12 wr : World}
    (h0 : wr.heap[w0.heap.size]? = some (.cells s.cells 94 (0, 0))) (h1 : ∃ z, wr.heap[w11.heap.size]? = some (.cells z 94 (0, 0)) ∧ z.size = 8) (hW : Wrow wr w12.heap.size bs 16)
    (h01 : w0.heap.size < w11.heap.size) (h12 : w11.heap.size < w12.heap.size) (hB0 : w.heap.size ≤ w0.heap.size) (hb : Below w.heap.size w wr)
    (hQ : ∀ w', Below w.heap.size w w' → Q (s.block KR bs).a (s.block KR bs).b (s.block KR bs).c (s.block KR bs).d (s.block KR bs).e (s.block KR bs).f (s.block KR bs).g (s.block KR bs).h w') : kLoop (F77_l2 Q w0 w11 w12) 16 wr := by
  refine ⟨fun st wq => ∃ i : Nat, st = (i : Int) ∧ 16 ≤ i ∧ i ≤ 64 ∧ wq.heap[w0.heap.size]? = some (.cells s.cells 94 (0, 0)) ∧ (∃ z, wq.heap[w11.heap.size]? = some (.cells z 94 (0, 0)) ∧ z.size = 8) ∧ Wrow wq w12.heap.size bs i ∧ Below w.heap.size w wq, fun st _ => (64 - st).toNat, ⟨16, rfl, by omega, by omega, h0, h1, hW, hb⟩, ?_⟩
  rintro _ wq ⟨i, rfl, hi16, hi, h0, h1, hW, hb⟩
  unfold F77_l2
  refine ⟨fun hlt => ?_, fun hge => ?_⟩
  · have hi64 : i < 64 := by omega
    have e2 : IntKind.i64.wrap ((i : Int) - 2) = ((i - 2 : Nat) : Int) := by rw [w_i64 (by omega) (by omega)]; omega
    have e15 : IntKind.i64.wrap ((i : Int) - 15) = ((i - 15 : Nat) : Int) := by rw [w_i64 (by omega) (by omega)]; omega
    have e7 : IntKind.i64.wrap ((i : Int) - 7) = ((i - 7 : Nat) : Int) := by rw [w_i64 (by omega) (by omega)]; omega
    have e16 : IntKind.i64.wrap ((i : Int) - 16) = ((i - 16 : Nat) : Int) := by rw [w_i64 (by omega) (by omega)]; omega
    rw [e2, e15, e7, e16]
    simp only [Int.toNat_natCast]
    refine ⟨by omega, by omega, _, hW.cell (by omega), by omega, by omega, _, hW.cell (by omega), ?_⟩
    intro w29 hm
    have bq : Below wq.heap.size wq w29 := by rw [hm]; exact below_draw (Below.refl _ _) 1
    clear hm
    have cs : ∀ (x : World), Below wq.heap.size wq x → Wrow x w12.heap.size bs i := fun x hx => hW.gr (Gr.below (S := fun _ => False) hx) (fun h => h)
    have hx := cs _ bq
    refine ⟨by omega, by omega, _, hx.cell (by omega), by omega, by omega, _, hx.cell (by omega), ?_⟩
    refine (C95 (Wt bs (i - 2)) 17 _ (by omega) (by omega)).mono ?_
    rintro _ x1 ⟨_, rfl, rfl, m, hw⟩
    have bq : Below wq.heap.size wq x1 := by rw [hw]; exact below_draw bq m
    clear hw
    have hx := cs _ bq
    refine ⟨_, rfl, hx.cell (by omega), hx.cell (by omega), ?_⟩
    refine (C95 (Wt bs (i - 2)) 19 _ (by omega) (by omega)).mono ?_
    rintro _ x2 ⟨_, rfl, rfl, m, hw⟩
    have bq : Below wq.heap.size wq x2 := by rw [hw]; exact below_draw bq m
    clear hw
    have hx := cs _ bq
    refine ⟨_, rfl, hx.cell (by omega), hx.cell (by omega), ?_⟩
    refine (C95 (Wt bs (i - 15)) 7 _ (by omega) (by omega)).mono ?_
    rintro _ x3 ⟨_, rfl, rfl, m, hw⟩
    have bq : Below wq.heap.size wq x3 := by rw [hw]; exact below_draw bq m
    clear hw
    have hx := cs _ bq
    refine ⟨_, rfl, hx.cell (by omega), hx.cell (by omega), ?_⟩
    refine (C95 (Wt bs (i - 15)) 18 _ (by omega) (by omega)).mono ?_
    rintro _ x4 ⟨_, rfl, rfl, m, hw⟩
    have bq : Below wq.heap.size wq x4 := by rw [hw]; exact below_draw bq m
    clear hw
    have hx := cs _ bq
    refine ⟨_, rfl, hx.cell (by omega), hx.cell (by omega), ?_⟩
    have q0 := Gr.below (S := fun _ => False) bq
    have h0 := q0.blk h0 (fun h => h)
    obtain ⟨z, hz, hzs⟩ := h1
    have hz := q0.blk hz (fun h => h)
    have hW := hx
    have hb : Below w.heap.size w x4 := hb.trans (bq.mono hb.size)
    refine ⟨by omega, hlt, hW.has hi64, ?_⟩
    intro w42 e
    obtain ⟨hWn, q⟩ := hW.set hi64 (by rw [Wt_hi (i := i) (by omega)]; rfl) e
    rw [w_i64 (by omega) (by omega)]
    exact ⟨⟨i + 1, by omega, by omega, by omega, q.blk h0 (by (try dsimp only); omega), ⟨z, q.blk hz (by (try dsimp only); omega), hzs⟩, hWn, hb.trans (q.toBelow hb.size (fun k hk => by (try dsimp only at hk); omega))⟩, by (try dsimp only); omega⟩
  · have hi64 : i = 64 := by omega
    subst hi64
    refine (C96 wq).mono ?_
    rintro _ w42 ⟨sk, rfl, hsk, hk, b42⟩
    have q0 := Gr.below (S := fun _ => False) b42
    have h0 := q0.blk h0 (fun h => h)
    obtain ⟨z, hz, hzs⟩ := h1
    have hz := q0.blk hz (fun h => h)
    have hW := hW.gr q0 (fun h => h)
    have hb : Below w.heap.size w w42 := hb.trans (b42.mono hb.size)
    refine ⟨_, rfl, _, _, _, _, _, _, _, _, row_cellsAt h0, ?_⟩
    have d0 := row_lt h0
    have d1 := row_lt hz
    have d2 := hW.lt
    have zb := hb.size
    intro w51 e
    have bq : Below w42.heap.size w42 w51 := by rw [e]; exact below_row _ _
    have hz3 : w51.heap[w42.heap.size]? = some (.cells #[.int .u32 0, .int .u32 0, .int .u32 0, .int .u32 0, .int .u32 0, .int .u32 0, .int .u32 0, .int .u32 0] 94 (0, 0)) := by rw [e]; exact heap_alloc_new w42 _
    clear e
    have q0 := Gr.below (S := fun _ => False) bq
    have h0 := q0.blk h0 (fun h => h)
    have hz := q0.blk hz (fun h => h)
    have hW := hW.gr q0 (fun h => h)
    refine ⟨row_hass hz3 8 0 (by show 8 ≤ 8; omega), ?_⟩
    intro w52 e
    obtain ⟨h3, q⟩ := set8 hz3 rfl s e
    have bw : Below w42.heap.size w42 w52 := bq.trans (q.toBelow bq.size (fun k hk => by (try dsimp only at hk); omega))
    exact l3_77 (w := w) (wk := w42) hsk hk (Nat.le_refl _) bw (q.blk h0 (by (try dsimp only); omega)) ⟨z, q.blk hz (by (try dsimp only); omega), hzs⟩ (hW.gr q (by (try dsimp only); omega)) h3 (by omega) (by omega) (by omega) (by omega) hB0 (by omega) (by omega) (hb.trans (bw.mono hb.size)) hQ
theorem C77 (h : Rd B8 w b bs) (hl : bs.length = 64) : Calls Try.prog 77 #[.agg s.cells, .slice b.a b.n b.c] w (fun e w1 => e = .returned (.agg (s.block KR bs).cells) ∧ Below w.heap.size w w1) := by
  refine (F77_sound s.a s.b s.c s.d s.e s.f s.g s.h b (fun a b c d e f g h w1 => a = (s.block KR bs).a ∧ b = (s.block KR bs).b ∧ c = (s.block KR bs).c ∧ d = (s.block KR bs).d ∧ e = (s.block KR bs).e ∧ f = (s.block KR bs).f ∧ g = (s.block KR bs).g ∧ h = (s.block KR bs).h ∧ Below w.heap.size w w1) w ?_).mono (by
    rintro _ w1 ⟨_, _, _, _, _, _, _, _, rfl, rfl, rfl, rfl, rfl, rfl, rfl, rfl, rfl, hb⟩
    exact ⟨rfl, hb⟩)
  unfold F77
  have hn := h.1
  intro w11 e
  have b1 : Below w.heap.size w w11 := by rw [e]; exact below_row _ _
  have h0 : w11.heap[w.heap.size]? = some (.cells s.cells 94 (0, 0)) := by rw [e]; exact heap_alloc_new w _
  clear e
  have d0 := row_lt h0
  intro w12 e
  have b2 : Below w11.heap.size w11 w12 := by rw [e]; exact below_row _ _
  obtain ⟨z, hz, hzs⟩ : ∃ z, w12.heap[w11.heap.size]? = some (.cells z 94 (0, 0)) ∧ z.size = 8 := ⟨_, by rw [e]; exact heap_alloc_new w11 _, by kernel_rfl⟩
  clear e
  have d1 := row_lt hz
  intro w13 e
  have b3 : Below w12.heap.size w12 w13 := by rw [e]; exact below_row _ _
  obtain ⟨z6, hz6, hzs6⟩ : ∃ z, w13.heap[w12.heap.size]? = some (.cells z 96 (0, 0)) ∧ z.size = 64 := ⟨_, by rw [e]; exact heap_alloc_new w12 _, by kernel_rfl⟩
  clear e
  have q2 := Gr.below (S := fun _ => False) b2
  have q3 := Gr.below (S := fun _ => False) b3
  have h0 := q3.blk (q2.blk h0 (fun h => h)) (fun h => h)
  have hz := q3.blk hz (fun h => h)
  have B := b1.trans (b2.mono b1.size)
  have B := B.trans (b3.mono B.size)
  refine ⟨fun st wq => ∃ i : Nat, st = (i : Int) ∧ i ≤ 16 ∧ wq.heap[w.heap.size]? = some (.cells s.cells 94 (0, 0)) ∧ (∃ z, wq.heap[w11.heap.size]? = some (.cells z 94 (0, 0)) ∧ z.size = 8) ∧ Wrow wq w12.heap.size bs i ∧ Below w.heap.size w wq, fun st _ => (16 - st).toNat, ⟨0, rfl, by omega, h0, ⟨z, hz, hzs⟩, ⟨z6, hz6, hzs6, fun j hj => by omega⟩, B⟩, ?_⟩
  rintro _ wq ⟨i, rfl, hi, h0, h1, hW, hb⟩
  unfold F77_l1
  refine ⟨fun hlt => ?_, fun hge => ?_⟩
  · intro w16 hm
    have bq : Below wq.heap.size wq w16 := by rw [hm]; exact below_draw (Below.refl _ _) 1
    clear hm
    have q0 := Gr.below (S := fun _ => False) bq
    have h0 := q0.blk h0 (fun h => h)
    obtain ⟨z, hz, hzs⟩ := h1
    have hz := q0.blk hz (fun h => h)
    have hW := hW.gr q0 (fun h => h)
    have hb : Below w.heap.size w w16 := hb.trans (bq.mono hb.size)
    have e0 : IntKind.i64.wrap (4 * (i : Int)) = ((4 * i : Nat) : Int) := by rw [w_i64 (by omega) (by omega)]; omega
    have e1 : IntKind.i64.wrap (((4 * i : Nat) : Int) + 1) = ((4 * i + 1 : Nat) : Int) := by rw [w_i64 (by omega) (by omega)]; omega
    have e2 : IntKind.i64.wrap (((4 * i : Nat) : Int) + 2) = ((4 * i + 2 : Nat) : Int) := by rw [w_i64 (by omega) (by omega)]; omega
    have e3 : IntKind.i64.wrap (((4 * i : Nat) : Int) + 3) = ((4 * i + 3 : Nat) : Int) := by rw [w_i64 (by omega) (by omega)]; omega
    rw [e0, e1, e2, e3]
    simp only [Int.toNat_natCast]
    obtain ⟨a0, p0, c0⟩ := rdg (h.below hb) (j := 4 * i) (by omega)
    obtain ⟨a1, p1, c1⟩ := rdg (h.below hb) (j := 4 * i + 1) (by omega)
    obtain ⟨a2, p2, c2⟩ := rdg (h.below hb) (j := 4 * i + 2) (by omega)
    obtain ⟨a3, p3, c3⟩ := rdg (h.below hb) (j := 4 * i + 3) (by omega)
    refine ⟨by omega, by omega, a0, p0, _, c0, by omega, by omega, a1, p1, _, c1, by omega, by omega, a2, p2, _, c2, by omega, by omega, a3, p3, _, c3, by omega, by omega, hW.has (by omega), ?_⟩
    intro w25 e
    obtain ⟨hWn, q⟩ := hW.set (by omega) (by rw [Wt_lo (i := i) (by omega)]; rfl) e
    rw [w_i64 (by omega) (by omega)]
    exact ⟨⟨i + 1, by omega, by omega, q.blk h0 (by (try dsimp only); omega), ⟨z, q.blk hz (by (try dsimp only); omega), hzs⟩, hWn, hb.trans (q.toBelow hb.size (fun k hk => by (try dsimp only at hk); omega))⟩, by (try dsimp only); omega⟩
  · have hi16 : i = 16 := by omega
    subst hi16
    exact l2_77 h0 h1 hW d0 d1 (Nat.le_refl _) hb (fun w' hb' => ⟨rfl, rfl, rfl, rfl, rfl, rfl, rfl, rfl, hb'⟩)
end
end Go.Proofs.Ytjgijifankaglaa
