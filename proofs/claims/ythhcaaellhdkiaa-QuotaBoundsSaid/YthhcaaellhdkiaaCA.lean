/- The writer of package bits: Cut, walked. -/
import Derived.Test.YthhcaaellhdkiaaBZ
namespace Go.Proofs.Ythhcaaellhdkiaa
open Go Go.RowKit Go.Proofs.Ythhcaaellhdkiaa.SX
set_option linter.unusedVariables false

/-- clear of what lies behind a place of an owned row -/
theorem clear_own {w : World} {s : Sl} {xs : List Int} (ho : Own B8 5 0 w s xs) (m : Nat) (hm : m ≤ xs.length) (h0 : 0 < xs.length) :
    ∃ (t : Sl) (v : Value) (w1 : World), (∀ w' : World, (Instr.sliceAt 22 (.slice s.a s.n s.c) (some (.int .i64 (m : Int))) none none).run Try.prog w' = .ok (.slice t.a t.n t.c) w') ∧ (Builtin.clear_ #[22] 0 #[.slice t.a t.n t.c]).run Try.prog w = .ok v w1 ∧
      (∃ ys, Own B8 5 0 w1 s ys ∧ ys.length = xs.length ∧ ys.take m = xs.take m) ∧ w.grownBy w1 s.blk := by
  rcases ho.form with ⟨rfl, rfl⟩ | ⟨g, cap, cur, rfl, h2, h3, h4, h5, h6, h7⟩
  · simp at h0
  · have hcut := fun w' : World => cut_lo (w := w') ty22 ⟨some ⟨g, 0, none⟩, xs.length, cap⟩ (m : Int) m rfl hm
    rcases Nat.lt_or_ge m xs.length with hlt | hge
    · obtain ⟨o1, g1⟩ := SX.Own.sets (g := g) (List.replicate (xs.length - m) (0 : Int)) xs m w ho rfl (by simp; omega)
      rw [show (List.replicate (xs.length - m) (0 : Int)).map B8 = List.replicate (xs.length - m) (.int .u8 0) by simp] at o1 g1
      refine ⟨⟨some ⟨g, m, none⟩, xs.length - m, cap - m⟩, .tuple #[], w.setCells g m (List.replicate (xs.length - m) (.int .u8 0)), ?_, ?_, ⟨_, o1, ?_, ?_⟩, g1⟩
      · intro w'
        have := hcut w'
        simp only [if_neg (show ¬ cap = m by omega), Option.map_some, add_lit] at this
        exact this
      · refine Lib.run_clear_slice w 22 5 0 (.int .u8 0) Try.underlying22 (fun w => by kernel_rfl) rfl rfl g m (xs.length - m) (cap - m) (by omega) (fun j hj => ?_) (fun j hj => ?_)
        · rw [cell_of_row w g (m + j) cur 5 (0, 0) h3]; simp; omega
        · unfold World.frozen?; rw [h3]; simp
      · simp; omega
      · simp [Nat.min_eq_left hm]
    · refine ⟨⟨if cap = m then some ⟨g, 0, none⟩ else (some (⟨g, 0, none⟩ : Addr)).map (·.add m), xs.length - m, cap - m⟩, .tuple #[], w, hcut, ?_, ⟨xs, ho, rfl, rfl⟩, World.grownBy.refl _ _⟩
      have hz : xs.length - m = 0 := by omega
      simp only [hz]
      split <;> simp [Builtin.clear_, run_underlying Try.underlying22]

/-- the row is changed within its own block -/
theorem Wz.within {w w1 : World} {o : Addr} {s : Sl} {n : Int} {xs ys : List Int} {fp : Nat → Prop} (h : Wz w o s n xs fp) (hg : w.grownBy w1 s.blk) (ho : Own B8 5 0 w1 s ys) : Wz w1 o s n ys fp ∧ Gr fp w w1 := by
  have hne : some o.block ≠ s.blk := by intro e; exact (h.bl _ e.symm).2 rfl
  have hbo := World.block_lt_of_cell? w _ h.c0
  exact ⟨⟨keep_cell h.c0 hg hne, keep_cell h.c1 hg (by rw [add_block]; exact hne), by rw [World.grownBy.frozen_far hg o hbo hne]; exact h.f0, by rw [World.grownBy.frozen_far hg (o.add 1) (by rw [add_block]; exact hbo) (by rw [add_block]; exact hne)]; exact h.f1, ho, h.bl, h.fo, fun k hk => Nat.lt_of_lt_of_le (h.lt k hk) hg.size⟩,
    Gr.row hg (fun b hb => (h.bl b hb).1)⟩
/-- the row is cut, and stored -/
theorem Wz.cutTo {w : World} {o : Addr} {s : Sl} {n : Int} {xs : List Int} {fp : Nat → Prop} (h : Wz w o s n xs fp) (m : Nat) (hm : m ≤ xs.length) :
    HasCell w o ∧ Wz (w.setCell o (Sl.v ⟨s.a, m, s.c⟩)) o ⟨s.a, m, s.c⟩ n (xs.take m) fp ∧ Gr fp w (w.setCell o (Sl.v ⟨s.a, m, s.c⟩)) := by
  have hg := grown_set w o (Sl.v ⟨s.a, m, s.c⟩)
  have hbl : (⟨s.a, m, s.c⟩ : Sl).blk = s.blk := by
    unfold Sl.blk
    obtain ⟨a, _, _⟩ := s
    cases a <;> rfl
  refine ⟨⟨⟨_, h.c0⟩, h.f0⟩, ⟨World.cell?_setCell_same _ _ _ h.c0, ?_, by simpa using h.f0, by simpa using h.f1, ?_, by rw [hbl]; exact h.bl, h.fo, fun k hk => Nat.lt_of_lt_of_le (h.lt k hk) hg.size⟩, Gr.row hg (fun b hb => by cases hb; exact h.fo)⟩
  · rw [World.cell?_setCell_other _ _ _ _ (off_ne o)]; exact h.c1
  · refine (h.own.short m hm).kept hg ?_
    rw [hbl]
    cases hk : s.blk with
    | none => exact .inl rfl
    | some b => right; intro e; cases e; exact (h.bl _ hk).2 rfl
end Go.Proofs.Ythhcaaellhdkiaa
