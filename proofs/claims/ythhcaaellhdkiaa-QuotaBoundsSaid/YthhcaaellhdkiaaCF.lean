/- The document's own writer and reader: a row of truths. -/
import Derived.Test.YthhcaaellhdkiaaCE
import Derived.Test.YthhcaaellhdkiaaGBb
namespace Go.Proofs.Ythhcaaellhdkiaa
open Go Go.RowKit Go.Proofs.Ythhcaaellhdkiaa.SX
set_option linter.unusedVariables false

theorem ty111 : Ty Try.prog 111 4 (.bool false) 1 := ⟨Try.underlying111, by kernel_rfl, rfl, by omega⟩
theorem bolone (b : Bool) : (Value.bool b).oneCell' = true := rfl

/-- an object whose first cell is a row, and whose second one, if it has one, is x -/
structure Ob {α : Type} (enc : α → Value) (e : TypeId) (x : Option Value) (w : World) (o : Addr) (s : Sl) (xs : List α) (fp : Nat → Prop) : Prop where
  c0 : w.cell? o = some s.v
  f0 : w.frozen? o = false
  c1 : ∀ v, x = some v → w.cell? (o.add 1) = some v ∧ w.frozen? (o.add 1) = false
  own : Own enc e 0 w s xs
  bl : ∀ b, s.blk = some b → fp b ∧ b ≠ o.block
  fo : fp o.block
  lt : ∀ k, fp k → k < w.heap.size
section
variable {α : Type} {enc : α → Value} {e : TypeId} {x : Option Value} {w w' : World} {o : Addr} {s : Sl} {xs : List α} {fp S : Nat → Prop}
theorem Ob.keep (h : Ob enc e x w o s xs fp) (hg : Gr S w w') (hn : ∀ k, fp k → ¬ S k) : Ob enc e x w' o s xs fp := by
  have hb := World.block_lt_of_cell? w _ h.c0
  exact ⟨hg.cell h.c0 (hn _ h.fo), by rw [hg.frozen hb (hn _ h.fo)]; exact h.f0, fun v hv => ⟨hg.cell (h.c1 v hv).1 (by rw [add_block]; exact hn _ h.fo), by rw [hg.frozen (by rw [add_block]; exact hb) (by rw [add_block]; exact hn _ h.fo)]; exact (h.c1 v hv).2⟩,
    hg.own h.own (fun b hb => hn b (h.bl b hb).1), h.bl, h.fo, fun k hk => Nat.lt_of_lt_of_le (h.lt k hk) hg.size⟩
/-- the row is another slice now -/
theorem Ob.slice (h : Ob enc e x w o s xs fp) {w2 : World} {s2 : Sl} {ys : List α} (hg : w.grownBy w2 s.blk) (ho : Own enc e 0 w2 s2 ys) (hb : s2.blk = none ∨ s2.blk = s.blk ∨ ∃ b, s2.blk = some b ∧ w.heap.size ≤ b) :
    HasCell w2 o ∧ Ob enc e x (w2.setCell o s2.v) o s2 ys (fun k => fp k ∨ (w.heap.size ≤ k ∧ k < w2.heap.size)) ∧ Gr fp w (w2.setCell o s2.v) := by
  have hbo := World.block_lt_of_cell? w _ h.c0
  have hne : some o.block ≠ s.blk := by intro e; exact (h.bl _ e.symm).2 rfl
  have c0 := keep_cell h.c0 hg hne
  have f0 : w2.frozen? o = false := by rw [World.grownBy.frozen_far hg o hbo hne]; exact h.f0
  have hg2 := grown_set w2 o s2.v
  have hs2 : ∀ b, s2.blk = some b → (fp b ∨ (w.heap.size ≤ b ∧ b < w2.heap.size)) ∧ b ≠ o.block := by
    intro b hb2
    have hlt := (ho.blk_ge b hb2).2
    rcases hb with h1 | h1 | ⟨b', h1, h2⟩
    · rw [h1] at hb2; cases hb2
    · rw [h1] at hb2; exact ⟨.inl (h.bl b hb2).1, (h.bl b hb2).2⟩
    · rw [h1] at hb2; cases hb2; exact ⟨.inr ⟨h2, hlt⟩, by omega⟩
  refine ⟨⟨⟨_, c0⟩, f0⟩, ⟨World.cell?_setCell_same _ _ _ c0, by simpa using f0, ?_, ?_, hs2, .inl h.fo, ?_⟩, ?_⟩
  · intro v hv
    obtain ⟨h1, h2⟩ := h.c1 v hv
    refine ⟨?_, ?_⟩
    · rw [World.cell?_setCell_other _ _ _ _ (off_ne o)]; exact keep_cell h1 hg (by rw [add_block]; exact hne)
    · rw [World.frozen?_setCell, World.grownBy.frozen_far hg (o.add 1) (by rw [add_block]; exact hbo) (by rw [add_block]; exact hne)]; exact h2
  · refine ho.kept hg2 ?_
    cases hk : s2.blk with
    | none => exact .inl rfl
    | some b => right; intro e; cases e; exact (hs2 _ hk).2 rfl
  · intro k hk
    have := hg.size
    have := hg2.size
    rcases hk with hk | hk
    · have := h.lt k hk; omega
    · omega
  · exact (Gr.row hg (fun b hb => (h.bl b hb).1)).trans (Gr.row hg2 (S := fp) (fun b hb => by cases hb; exact h.fo)) (fun _ _ hk => hk)
/-- the row is cut, and stored -/
theorem Ob.cutTo (h : Ob enc e x w o s xs fp) (m : Nat) (hm : m ≤ xs.length) :
    HasCell w o ∧ Ob enc e x (w.setCell o (Sl.v ⟨s.a, m, s.c⟩)) o ⟨s.a, m, s.c⟩ (xs.take m) fp ∧ Gr fp w (w.setCell o (Sl.v ⟨s.a, m, s.c⟩)) := by
  have hg := grown_set w o (Sl.v ⟨s.a, m, s.c⟩)
  have hbl : (⟨s.a, m, s.c⟩ : Sl).blk = s.blk := by
    unfold Sl.blk
    obtain ⟨a, _, _⟩ := s
    cases a <;> rfl
  refine ⟨⟨⟨_, h.c0⟩, h.f0⟩, ⟨World.cell?_setCell_same _ _ _ h.c0, by simpa using h.f0, ?_, ?_, by rw [hbl]; exact h.bl, h.fo, fun k hk => Nat.lt_of_lt_of_le (h.lt k hk) hg.size⟩, Gr.row hg (fun b hb => by cases hb; exact h.fo)⟩
  · intro v hv
    exact ⟨by rw [World.cell?_setCell_other _ _ _ _ (off_ne o)]; exact (h.c1 v hv).1, by rw [World.frozen?_setCell]; exact (h.c1 v hv).2⟩
  · refine (h.own.short m hm).kept hg ?_
    rw [hbl]
    cases hk : s.blk with
    | none => exact .inl rfl
    | some b => right; intro e; cases e; exact (h.bl _ hk).2 rfl
/-- the second cell is written -/
theorem Ob.second (h : Ob enc e x w o s xs fp) {v : Value} (hx : x = some v) (u : Value) : HasCell w (o.add 1) ∧ Ob enc e (some u) (w.setCell (o.add 1) u) o s xs fp ∧ Gr fp w (w.setCell (o.add 1) u) := by
  have hg := grown_set w (o.add 1) u
  rw [add_block] at hg
  obtain ⟨h1, h2⟩ := h.c1 v hx
  refine ⟨⟨⟨_, h1⟩, h2⟩, ⟨?_, by simpa using h.f0, ?_, ?_, h.bl, h.fo, fun k hk => Nat.lt_of_lt_of_le (h.lt k hk) hg.size⟩, Gr.row hg (fun b hb => by cases hb; exact h.fo)⟩
  · rw [World.cell?_setCell_other _ _ _ _ (off_ne o).symm]; exact h.c0
  · intro v' hv'; cases hv'
    exact ⟨World.cell?_setCell_same _ _ _ h1, by rw [World.frozen?_setCell]; exact h2⟩
  · refine h.own.kept hg ?_
    cases hk : s.blk with
    | none => exact .inl rfl
    | some b => right; intro e; cases e; exact (h.bl _ hk).2 rfl
/-- one more at the row's end -/
theorem Ob.push {P : Program} {t : TypeId} {z : Value} {bytes : Nat} (h : Ob enc e x w o s xs fp) (hT : Ty P t e z bytes) (h1 : ∀ a : α, (enc a).oneCell' = true) (y : α) (hl : (xs.length + 1) * bytes ≤ 140737488355328) :
    ∃ s2 w2, (Builtin.append_ #[t, t] t #[.slice s.a s.n s.c, .slice (some ⟨w.heap.size, 0, none⟩) 1 1]).run P (w.alloc (.cells #[enc y] e)) = .ok (.slice s2.a s2.n s2.c) w2 ∧ HasCell w2 o ∧
      Ob enc e x (w2.setCell o s2.v) o s2 (xs ++ [y]) (fun k => fp k ∨ (w.heap.size ≤ k ∧ k < w2.heap.size)) ∧ Gr fp w (w2.setCell o s2.v) ∧ w.heap.size ≤ w2.heap.size := by
  obtain ⟨s2, w2, hr, ha⟩ := ap_one (ty := t) (w := w) hT h1 h.own y (Nat.zero_le _) hl
  obtain ⟨hc, h2, hg⟩ := h.slice ha.grown ha.own (by rcases ha.blk with h | h; exact .inr (.inl h); exact .inr (.inr h))
  exact ⟨s2, w2, hr, hc, h2, hg, ha.grown.size⟩
end
end Go.Proofs.Ythhcaaellhdkiaa
