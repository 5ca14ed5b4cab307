/- sum.round: a block of SHA-256. -/
import Derived.Test.YtjgijifankaglaaSC
namespace Go.Proofs.Ytjgijifankaglaa
open Go Go.RowKit Go.Proofs.Ytjgijifankaglaa.SX
set_option linter.unusedVariables false

def Wrow (w : World) (g : Nat) (bs : List Int) (i : Nat) : Prop := ∃ cs, w.heap[g]? = some (.cells cs 96 (0, 0)) ∧ cs.size = 64 ∧ ∀ j, j < i → cs[j]? = some (.int .u32 (Wt bs j))
theorem Wrow.cell {w : World} {g i j : Nat} {bs : List Int} (h : Wrow w g bs i) (hj : j < i) : w.cell? ((⟨g, 0, none⟩ : Addr).add j) = some (.int .u32 (Wt bs j)) := by
  obtain ⟨cs, h1, h2, h3⟩ := h
  rw [add_lit, row_get h1, h3 j hj]
theorem Wrow.has {w : World} {g i j : Nat} {bs : List Int} (h : Wrow w g bs i) (hj : j < 64) : HasCell w ((⟨g, 0, none⟩ : Addr).add j) := by
  obtain ⟨cs, h1, h2, h3⟩ := h
  rw [add_lit]
  exact row_has h1 (by omega)
theorem Wrow.set {w w' : World} {g i : Nat} {bs : List Int} {v : Int} (h : Wrow w g bs i) (hi : i < 64) (hv : v = Wt bs i) (e : w' = w.setCell ((⟨g, 0, none⟩ : Addr).add i) (.int .u32 v)) : Wrow w' g bs (i + 1) ∧ Gr (fun k => k = g) w w' := by
  obtain ⟨cs, h1, h2, h3⟩ := h
  rw [add_lit] at e
  subst hv
  refine ⟨⟨_, by rw [e]; exact row_set h1 _, by simpa using h2, fun j hj => ?_⟩, by rw [e]; exact gr_set w ⟨g, i, none⟩ _⟩
  by_cases hji : j = i
  · subst hji
    rw [Array.getElem?_setIfInBounds_self_of_lt (by omega)]
  · rw [Array.getElem?_setIfInBounds_ne (by omega)]
    exact h3 j (by omega)
theorem Wrow.gr {w w' : World} {g i : Nat} {bs : List Int} {S : Nat → Prop} (h : Wrow w g bs i) (q : Gr S w w') (hn : ¬ S g) : Wrow w' g bs i := by
  obtain ⟨cs, h1, h2, h3⟩ := h
  exact ⟨cs, q.blk h1 hn, h2, h3⟩
theorem Wrow.lt {w : World} {g i : Nat} {bs : List Int} (h : Wrow w g bs i) : g < w.heap.size := by
  obtain ⟨cs, h1, h2, h3⟩ := h
  exact row_lt h1
theorem rdg {w : World} {b : Sl} {bs : List Int} (h : Rd B8 w b bs) {j : Nat} (hj : j < bs.length) : ∃ a, b.a = some a ∧ w.cell? (a.add j) = some (.int .u8 (bs.getD j 0)) := by
  obtain ⟨a, ha, hc⟩ := h.at j hj
  refine ⟨a, ha, ?_⟩
  rw [hc, List.getD_eq_getElem?_getD, List.getElem?_eq_getElem hj]; rfl
def Kat (w : World) (k : Option Addr) (K : Nat → Int) : Prop := ∃ a, k = some a ∧ ∀ i, i < 64 → w.cell? (a.add i) = some (.int .u32 (K i))
theorem Kat.below {w w' : World} {k : Option Addr} {K : Nat → Int} (h : Kat w k K) (hb : Below w.heap.size w w') : Kat w' k K := by
  obtain ⟨a, ha, hc⟩ := h
  exact ⟨a, ha, fun i hi => by rw [hb.cell (World.block_lt_of_cell? w _ (hc i hi))]; exact hc i hi⟩
/-- the row of eight, i of them added to -/
def Arow (w : World) (g : Nat) (s t : S8) (i : Nat) : Prop := ∃ cs, w.heap[g]? = some (.cells cs 94 (0, 0)) ∧ cs.size = 8 ∧ ∀ j, j < 8 → cs[j]? = some (.int .u32 (if j < i then (s.add t).at j else s.at j))
theorem zeros8 (x : Nat) : sets #[Value.int .u32 0, .int .u32 0, .int .u32 0, .int .u32 0, .int .u32 0, .int .u32 0, .int .u32 0, .int .u32 0] 0 [] = #[Value.int .u32 0, .int .u32 0, .int .u32 0, .int .u32 0, .int .u32 0, .int .u32 0, .int .u32 0, .int .u32 0] := rfl
theorem S8.list (s : S8) : s.cells.toList = [.int .u32 s.a, .int .u32 s.b, .int .u32 s.c, .int .u32 s.d, .int .u32 s.e, .int .u32 s.f, .int .u32 s.g, .int .u32 s.h] := rfl
theorem set8 {w w' : World} {g : Nat} {cs : Array Value} (h : w.heap[g]? = some (.cells cs 94 (0, 0))) (hs : cs.size = 8) (s : S8) (e : w' = setCells w ⟨g, 0, none⟩ 0 s.cells.toList) : w'.heap[g]? = some (.cells s.cells 94 (0, 0)) ∧ Gr (fun k => k = g) w w' := by
  rw [e]
  refine ⟨?_, gr_sets _ 0 w⟩
  have := row_sets s.cells.toList 0 h
  rw [sets_all (by rw [hs]; rfl)] at this
  exact this
section
variable {w : World} {b : Sl} {bs : List Int} {k1 : Option Addr} {K : Nat → Int} {s : S8}
/-- what the last loop does -/
theorem l4_79 {Q : Int → Int → Int → Int → Int → Int → Int → Int → World → Prop} {g0 g1 g3 : Nat} {w0 w11 w27 wr : World} {t : S8} (e0 : g0 = w0.heap.size) (e1 : g1 = w11.heap.size) (e3 : g3 = w27.heap.size)
    (h0 : wr.heap[g0]? = some (.cells s.cells 94 (0, 0))) (h1 : ∃ z, wr.heap[g1]? = some (.cells z 94 (0, 0)) ∧ z.size = 8) (h3 : wr.heap[g3]? = some (.cells t.cells 94 (0, 0))) (h01 : g0 ≠ g1) (h03 : g0 ≠ g3) (h13 : g1 ≠ g3) {B : Nat} (hB0 : B ≤ g0) (hB1 : B ≤ g1) (hb : Below B w wr) (hBs : B ≤ wr.heap.size)
    (hQ : ∀ w', Below B w w' → Q (s.add t).a (s.add t).b (s.add t).c (s.add t).d (s.add t).e (s.add t).f (s.add t).g (s.add t).h w') : kLoop (F79_l4 Q w0 w11 w27) 0 wr := by
  subst e0 e1 e3
  refine ⟨fun st wq => ∃ i : Nat, st = (i : Int) ∧ i ≤ 8 ∧ Arow wq w0.heap.size s t i ∧ (∃ z, wq.heap[w11.heap.size]? = some (.cells z 94 (0, 0)) ∧ z.size = 8) ∧ wq.heap[w27.heap.size]? = some (.cells t.cells 94 (0, 0)) ∧ Below B w wq ∧ B ≤ wq.heap.size, fun st _ => (8 - st).toNat, ⟨0, rfl, by omega, ⟨_, h0, rfl, fun j hj => by rw [cells_at s hj]; simp⟩, h1, h3, hb, hBs⟩, ?_⟩
  rintro _ wq ⟨i, rfl, hi, hA, h1, h3, hb, hBs⟩
  unfold F79_l4
  refine ⟨fun hlt => ?_, fun hge => ?_⟩
  · rintro _ rfl
    have h3' : wq.drew.heap[w27.heap.size]? = some (.cells t.cells 94 (0, 0)) := h3
    obtain ⟨cs, c1, c2, c3⟩ := hA
    have c1' : wq.drew.heap[w0.heap.size]? = some (.cells cs 94 (0, 0)) := c1
    have hi8 : i < 8 := by omega
    have hci := c3 i hi8
    rw [if_neg (by omega)] at hci
    rw [Int.toNat_natCast, add_lit, add_lit]
    refine ⟨by omega, hlt, _, by rw [row_get c1']; exact hci, by omega, hlt, _, by rw [row_get h3']; exact cells_at t hi8, by omega, hlt, row_has c1' (by omega), ?_⟩
    intro w86 e
    have q := gr_set wq.drew ⟨w0.heap.size, i, none⟩ (.int .u32 (IntKind.u32.wrap (s.at i + t.at i)))
    have hc' := row_set c1' (j := i) (.int .u32 (IntKind.u32.wrap (s.at i + t.at i)))
    rw [← e] at q hc'
    have bd := below_draw hb 1
    rw [w_i64 (by omega) (by omega)]
    obtain ⟨z, hz, hzs⟩ := h1
    have hsz := q.size
    refine ⟨⟨i + 1, by omega, by omega, ⟨_, hc', by simpa using c2, fun j hj => ?_⟩, ⟨z, q.blk (show wq.drew.heap[w11.heap.size]? = _ from hz) (by (try dsimp only); omega), hzs⟩, q.blk h3' (by (try dsimp only); omega), bd.trans (q.toBelow hBs (fun k hk => by (try dsimp only at hk); omega)), Nat.le_trans hBs hsz⟩, by (try dsimp only); omega⟩
    by_cases hji : j = i
    · subst hji
      rw [Array.getElem?_setIfInBounds_self_of_lt (by omega), if_pos (by omega), add_at s t hj]
    · rw [Array.getElem?_setIfInBounds_ne (by omega), c3 j hj]
      by_cases hlt' : j < i
      · rw [if_pos hlt', if_pos (by omega)]
      · rw [if_neg hlt', if_neg (by omega)]
  · have hi8 : i = 8 := by omega
    subst hi8
    obtain ⟨cs, c1, c2, c3⟩ := hA
    have hcs : cs = (s.add t).cells := cells_of c2 (fun j hj => by rw [c3 j hj, if_pos hj])
    subst hcs
    obtain ⟨z, hz, hzs⟩ := h1
    refine ⟨_, _, _, _, _, _, _, _, row_cellsAt c1, row_hass hz 8 0 (by omega), ?_⟩
    intro w95 e
    obtain ⟨hr, q⟩ := set8 hz hzs (s.add t) e
    exact ⟨_, _, _, _, _, _, _, _, row_cellsAt hr, hQ w95 (hb.trans (q.toBelow hBs (fun k hk => by (try dsimp only at hk); omega)))⟩
end
end Go.Proofs.Ytjgijifankaglaa
