/- A pair of writers, the real one and the document's, and what its owner keeps beside. -/
import Derived.Test.YthhcaaellhdkiaaCL
import Derived.Test.YthhcaaellhdkiaaGBc
namespace Go.Proofs.Ythhcaaellhdkiaa
open Go Go.RowKit Go.Proofs.Ythhcaaellhdkiaa.SX
set_option linter.unusedVariables false

/-! ### whole blocks -/
section
variable {w w' : World} {g e j : Nat} {cs : Array Value} {S : Nat → Prop}
theorem row_get (h : w.heap[g]? = some (.cells cs e (0, 0))) (j : Nat) : w.cell? ⟨g, j, none⟩ = cs[j]? := cell_of_row w g j cs e (0, 0) h
theorem row_has (h : w.heap[g]? = some (.cells cs e (0, 0))) (hj : j < cs.size) : HasCell w ⟨g, j, none⟩ := by
  refine ⟨⟨cs[j], ?_⟩, ?_⟩
  · rw [row_get h]; simp [hj]
  · unfold World.frozen?; rw [h]; simp
theorem row_set (h : w.heap[g]? = some (.cells cs e (0, 0))) (v : Value) : (w.setCell ⟨g, j, none⟩ v).heap[g]? = some (.cells (cs.setIfInBounds j v) e (0, 0)) := by
  unfold World.setCell
  simp [Array.getElem?_modify, h]
theorem row_lt (h : w.heap[g]? = some (.cells cs e (0, 0))) : g < w.heap.size := by
  rcases Nat.lt_or_ge g w.heap.size with h' | h'
  · exact h'
  · rw [Array.getElem?_eq_none h'] at h; cases h
theorem Gr.blk (hg : Gr S w w') (h : w.heap[g]? = some (.cells cs e (0, 0))) (hn : ¬ S g) : w'.heap[g]? = some (.cells cs e (0, 0)) := by
  rw [hg.block g (row_lt h) hn]; exact h
theorem gr_set (w : World) (p : Addr) (v : Value) : Gr (fun k => k = p.block) w (w.setCell p v) := Gr.row (grown_set w p v) (fun b hb => by cases hb; rfl)
theorem gr_alloc (w : World) (cs : Array Value) (e : Nat) : Gr S w (w.alloc (.cells cs e)) := Gr.below ((Below.refl _ _).alloc (Nat.le_refl _) _)
theorem gr_drew (w : World) (m : Nat) : Gr S w (w.drewN m) := gr_drewN (Gr.refl _ _) m
end

theorem Wr.lt {w : World} {o : Addr} {l : List Bool} {fp : Nat → Prop} (h : Wr w o l fp) : ∀ k, fp k → k < w.heap.size := by obtain ⟨s, z⟩ := wr_iff.1 h; exact z.lt
theorem Wf.lt {w : World} {o : Addr} {l : List Bool} {fp : Nat → Prop} (h : Wf w o l fp) : ∀ k, fp k → k < w.heap.size := by obtain ⟨s, z⟩ := h; exact z.lt

structure Pc (w : World) (g : Nat) (oa ob : Addr) (sl : Sl) (mark len : Int) (la lb : List Bool) (fa fb : Nat → Prop) : Prop where
  row : w.heap[g]? = some (.cells #[.pointer (some oa), .pointer (some ob), sl.v, .int .u8 mark, .int .i64 len] 65 (0, 0))
  wr : Wr w oa la fa
  wf : Wf w ob lb fb
  ab : ∀ k, fa k → ¬ fb k
  ag : ¬ fa g
  bg : ¬ fb g
section
variable {w w' : World} {g : Nat} {oa ob : Addr} {sl : Sl} {mark len : Int} {la lb l : List Bool} {fa fb fp S : Nat → Prop}
theorem Pc.keep (h : Pc w g oa ob sl mark len la lb fa fb) (hg : Gr S w w') (ha : ∀ k, fa k → ¬ S k) (hb : ∀ k, fb k → ¬ S k) (hn : ¬ S g) : Pc w' g oa ob sl mark len la lb fa fb :=
  ⟨hg.blk h.row hn, h.wr.keep hg ha, h.wf.keep hg hb, h.ab, h.ag, h.bg⟩
theorem Pc.c0 (h : Pc w g oa ob sl mark len la lb fa fb) : w.cell? ⟨g, 0, none⟩ = some (.pointer (some oa)) := by rw [row_get h.row]; rfl
theorem Pc.c1 (h : Pc w g oa ob sl mark len la lb fa fb) : w.cell? ((⟨g, 0, none⟩ : Addr).add 1) = some (.pointer (some ob)) := by rw [add_lit, row_get h.row]; rfl
theorem Pc.c2 (h : Pc w g oa ob sl mark len la lb fa fb) : w.cell? ((⟨g, 0, none⟩ : Addr).add 2) = some sl.v := by rw [add_lit, row_get h.row]; rfl
theorem Pc.c3 (h : Pc w g oa ob sl mark len la lb fa fb) : w.cell? ((⟨g, 0, none⟩ : Addr).add 3) = some (.int .u8 mark) := by rw [add_lit, row_get h.row]; rfl
theorem Pc.c4 (h : Pc w g oa ob sl mark len la lb fa fb) : w.cell? ((⟨g, 0, none⟩ : Addr).add 4) = some (.int .i64 len) := by rw [add_lit, row_get h.row]; rfl
theorem Pc.has (h : Pc w g oa ob sl mark len la lb fa fb) (j : Nat) (hj : j < 5) : HasCell w ((⟨g, 0, none⟩ : Addr).add j) := by rw [add_lit]; exact row_has h.row (by simpa using hj)
theorem Pc.s2 (h : Pc w g oa ob sl mark len la lb fa fb) (s2 : Sl) : Pc (w.setCell ((⟨g, 0, none⟩ : Addr).add 2) s2.v) g oa ob s2 mark len la lb fa fb := by
  have hg := gr_set w ((⟨g, 0, none⟩ : Addr).add 2) s2.v
  rw [add_lit] at hg ⊢
  exact ⟨row_set h.row _, h.wr.keep hg (fun k hk e => h.ag (by rw [← show k = g from e]; exact hk)), h.wf.keep hg (fun k hk e => h.bg (by rw [← show k = g from e]; exact hk)), h.ab, h.ag, h.bg⟩
theorem Pc.s3 (h : Pc w g oa ob sl mark len la lb fa fb) (m : Int) : Pc (w.setCell ((⟨g, 0, none⟩ : Addr).add 3) (.int .u8 m)) g oa ob sl m len la lb fa fb := by
  have hg := gr_set w ((⟨g, 0, none⟩ : Addr).add 3) (.int .u8 m)
  rw [add_lit] at hg ⊢
  exact ⟨row_set h.row _, h.wr.keep hg (fun k hk e => h.ag (by rw [← show k = g from e]; exact hk)), h.wf.keep hg (fun k hk e => h.bg (by rw [← show k = g from e]; exact hk)), h.ab, h.ag, h.bg⟩
theorem Pc.s4 (h : Pc w g oa ob sl mark len la lb fa fb) (m : Int) : Pc (w.setCell ((⟨g, 0, none⟩ : Addr).add 4) (.int .i64 m)) g oa ob sl mark m la lb fa fb := by
  have hg := gr_set w ((⟨g, 0, none⟩ : Addr).add 4) (.int .i64 m)
  rw [add_lit] at hg ⊢
  exact ⟨row_set h.row _, h.wr.keep hg (fun k hk e => h.ag (by rw [← show k = g from e]; exact hk)), h.wf.keep hg (fun k hk e => h.bg (by rw [← show k = g from e]; exact hk)), h.ab, h.ag, h.bg⟩
/-- the real writer was called -/
theorem Pc.upA (h : Pc w g oa ob sl mark len la lb fa fb) {la' : List Bool} {fa' : Nat → Prop} (hg : Gr fa w w') (hw : Wr w' oa la' fa') (hf : ∀ k, fa' k → fa k ∨ w.heap.size ≤ k) : Pc w' g oa ob sl mark len la' lb fa' fb :=
  ⟨hg.blk h.row h.ag, hw, h.wf.keep hg (fun k hk hk' => h.ab k hk' hk), fun k hk hk' => by rcases hf k hk with h1 | h1; exact h.ab k h1 hk'; have := h.wf.lt k hk'; omega,
    fun hk => by rcases hf _ hk with h1 | h1; exact h.ag h1; have := row_lt h.row; omega, h.bg⟩
theorem Pc.upB (h : Pc w g oa ob sl mark len la lb fa fb) {lb' : List Bool} {fb' : Nat → Prop} (hg : Gr fb w w') (hw : Wf w' ob lb' fb') (hf : ∀ k, fb' k → fb k ∨ w.heap.size ≤ k) : Pc w' g oa ob sl mark len la lb' fa fb' :=
  ⟨hg.blk h.row h.bg, h.wr.keep hg h.ab, hw, fun k hk hk' => by rcases hf k hk' with h1 | h1; exact h.ab k hk h1; have := h.wr.lt k hk; omega,
    h.ag, fun hk => by rcases hf _ hk with h1 | h1; exact h.bg h1; have := row_lt h.row; omega⟩
end

/-- the whole: what its owner keeps, too -/
structure Pw (w : World) (g : Nat) (oa ob : Addr) (sl : Sl) (mark len : Int) (la lb : List Bool) (fa fb fp : Nat → Prop) : Prop where
  pc : Pc w g oa ob sl mark len la lb fa fb
  own : ∃ k, Own B8 5 0 w sl (List.replicate k mark)
  oo : ∀ b, sl.blk = some b → ¬ fa b ∧ ¬ fb b ∧ b ≠ g ∧ fp b
  sa : ∀ k, fa k → fp k
  sb : ∀ k, fb k → fp k
  sg : fp g
  lt : ∀ k, fp k → k < w.heap.size
  m0 : 0 ≤ mark ∧ mark ≤ 255
  l0 : len ≤ 9223372036854775807
def wide (fp : Nat → Prop) (w w' : World) : Nat → Prop := fun k => fp k ∨ (w.heap.size ≤ k ∧ k < w'.heap.size)
section
variable {w w' w1 : World} {g : Nat} {oa ob : Addr} {sl : Sl} {mark len : Int} {la lb l : List Bool} {fa fb fp S : Nat → Prop}
theorem Pw.keep (h : Pw w g oa ob sl mark len la lb fa fb fp) (hg : Gr S w w') (hn : ∀ k, fp k → ¬ S k) : Pw w' g oa ob sl mark len la lb fa fb fp := by
  obtain ⟨k, ho⟩ := h.own
  exact ⟨h.pc.keep hg (fun k hk => hn k (h.sa k hk)) (fun k hk => hn k (h.sb k hk)) (hn g h.sg), ⟨k, hg.own ho (fun b hb => hn b (h.oo b hb).2.2.2)⟩, h.oo, h.sa, h.sb, h.sg, fun k hk => Nat.lt_of_lt_of_le (h.lt k hk) hg.size, h.m0, h.l0⟩
theorem Pw.upA (h : Pw w g oa ob sl mark len la lb fa fb fp) {la' : List Bool} {fa' : Nat → Prop} (hg : Gr fa w w') (hw : Wr w' oa la' fa') (hf : ∀ k, fa' k → fa k ∨ w.heap.size ≤ k) : Pw w' g oa ob sl mark len la' lb fa' fb (wide fp w w') := by
  obtain ⟨k, ho⟩ := h.own
  refine ⟨h.pc.upA hg hw hf, ⟨k, hg.own ho (fun b hb => (h.oo b hb).1)⟩, fun b hb => ⟨fun hk => ?_, (h.oo b hb).2.1, (h.oo b hb).2.2.1, .inl (h.oo b hb).2.2.2⟩, fun k hk => ?_, fun k hk => .inl (h.sb k hk), .inl h.sg, fun k hk => ?_, h.m0, h.l0⟩
  · rcases hf b hk with h1 | h1
    · exact (h.oo b hb).1 h1
    · have := h.lt b (h.oo b hb).2.2.2; omega
  · rcases hf k hk with h1 | h1
    · exact .inl (h.sa k h1)
    · exact .inr ⟨h1, hw.lt k hk⟩
  · have := hg.size
    rcases hk with h1 | h1
    · have := h.lt k h1; omega
    · exact h1.2
theorem Pw.upB (h : Pw w g oa ob sl mark len la lb fa fb fp) {lb' : List Bool} {fb' : Nat → Prop} (hg : Gr fb w w') (hw : Wf w' ob lb' fb') (hf : ∀ k, fb' k → fb k ∨ w.heap.size ≤ k) : Pw w' g oa ob sl mark len la lb' fa fb' (wide fp w w') := by
  obtain ⟨k, ho⟩ := h.own
  refine ⟨h.pc.upB hg hw hf, ⟨k, hg.own ho (fun b hb => (h.oo b hb).2.1)⟩, fun b hb => ⟨(h.oo b hb).1, fun hk => ?_, (h.oo b hb).2.2.1, .inl (h.oo b hb).2.2.2⟩, fun k hk => .inl (h.sa k hk), fun k hk => ?_, .inl h.sg, fun k hk => ?_, h.m0, h.l0⟩
  · rcases hf b hk with h1 | h1
    · exact (h.oo b hb).2.1 h1
    · have := h.lt b (h.oo b hb).2.2.2; omega
  · rcases hf k hk with h1 | h1
    · exact .inl (h.sb k h1)
    · exact .inr ⟨h1, hw.lt k hk⟩
  · have := hg.size
    rcases hk with h1 | h1
    · have := h.lt k h1; omega
    · exact h1.2
theorem Pw.s4 (h : Pw w g oa ob sl mark len la lb fa fb fp) (m : Int) (hm : m ≤ 9223372036854775807) : Pw (w.setCell ((⟨g, 0, none⟩ : Addr).add 4) (.int .i64 m)) g oa ob sl mark m la lb fa fb fp ∧ Gr fp w (w.setCell ((⟨g, 0, none⟩ : Addr).add 4) (.int .i64 m)) := by
  obtain ⟨k, ho⟩ := h.own
  have hg := gr_set w ((⟨g, 0, none⟩ : Addr).add 4) (.int .i64 m)
  rw [add_block] at hg
  refine ⟨⟨h.pc.s4 m, ⟨k, hg.own ho (fun b hb => (h.oo b hb).2.2.1)⟩, h.oo, h.sa, h.sb, h.sg, fun k hk => Nat.lt_of_lt_of_le (h.lt k hk) hg.size, h.m0, hm⟩, hg.mono (fun k hk => by rw [show k = g from hk]; exact h.sg)⟩
theorem Pw.grow (h : Pw w g oa ob sl mark len la lb fa fb fp) {fq : Nat → Prop} (hs : ∀ k, fp k → fq k) (hl : ∀ k, fq k → k < w.heap.size) : Pw w g oa ob sl mark len la lb fa fb fq :=
  ⟨h.pc, h.own, fun b hb => ⟨(h.oo b hb).1, (h.oo b hb).2.1, (h.oo b hb).2.2.1, hs b (h.oo b hb).2.2.2⟩, fun k hk => hs k (h.sa k hk), fun k hk => hs k (h.sb k hk), hs g h.sg, hl, h.m0, h.l0⟩
end
end Go.Proofs.Ythhcaaellhdkiaa
