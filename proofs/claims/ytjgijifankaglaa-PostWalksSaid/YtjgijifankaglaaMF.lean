/- What stays when a row is written or grown. -/
import Derived.Test.YtjgijifankaglaaM
import Derived.ArgAppend
import Derived.Deep.AppendLies
namespace Go.Proofs.Ytjgijifankaglaa.SX
open Go Go.RowKit
set_option linter.unusedVariables false
set_option linter.unusedSimpArgs false

section
variable {α : Type} {enc : α → Value} {P : Program} {w w' w1 : World} {s s' : Sl} {xs ys : List α} {t e ty base bytes : Nat} {z : Value}

theorem add_block (a : Addr) (i : Nat) : (a.add i).block = a.block := by unfold Addr.add; split <;> rfl
theorem add_lit (g i : Nat) : (⟨g, 0, none⟩ : Addr).add i = ⟨g, i, none⟩ := by unfold Addr.add; split <;> simp_all
theorem grown_set (w : World) (p : Addr) (u : Value) : w.grownBy (w.setCell p u) (some p.block) :=
  ⟨rfl, rfl, rfl, by simp [World.setCell], fun k _ hk => Below.heap_setCell w p u k (fun h => hk (by rw [h]))⟩
theorem Rd.keep (h : Rd enc w s xs) {row : Option Nat} (hg : w.grownBy w' row) (hne : ∀ a, s.a = some a → some a.block ≠ row) : Rd enc w' s xs :=
  h.of_cells fun p v hp ⟨a, ha, hb⟩ => World.grownBy.cell hg hp (by rw [hb]; exact hne a ha)
theorem keep_cell {row : Option Nat} {p : Addr} {v : Value} (h : w.cell? p = some v) (hg : w.grownBy w' row) (hne : some p.block ≠ row) : w'.cell? p = some v := World.grownBy.cell hg h hne
theorem Own.a_blk (h : Own enc e base w s xs) (a : Addr) (ha : s.a = some a) : s.blk = some a.block := by
  rcases h.form with ⟨rfl, rfl⟩ | ⟨g, cap, cur, rfl, h2, h3, h4, h5, h6, h7⟩
  · cases ha
  · cases ha; rfl
theorem Own.blk_a (h : Own enc e base w s xs) (b : Nat) (hb : s.blk = some b) : s.a = some ⟨b, 0, none⟩ := by
  rcases h.form with ⟨rfl, rfl⟩ | ⟨g, cap, cur, rfl, h2, h3, h4, h5, h6, h7⟩
  · cases hb
  · simp [Sl.blk, Sl.v, Value.ownBlock] at hb; subst hb; rfl

theorem Own.set (ho : Own enc e base w s xs) (i : Nat) (hi : i < xs.length) (y : α) :
    ∃ a, s.a = some a ∧ s.blk = some a.block ∧ HasCell w (a.add i) ∧ Own enc e base (w.setCell (a.add i) (enc y)) s (xs.set i y) ∧ w.grownBy (w.setCell (a.add i) (enc y)) s.blk := by
  rcases ho.form with ⟨rfl, rfl⟩ | ⟨g, cap, cur, rfl, h2, h3, h4, h5, h6, h7⟩
  · simp at hi
  · refine ⟨_, rfl, rfl, ?_, ?_, ?_⟩
    · rw [add_lit]
      refine ⟨⟨cur[i]'(by omega), ?_⟩, ?_⟩
      · rw [cell_of_row w g i cur e (0, 0) h3]; simp
      · unfold World.frozen?; rw [h3]; simp
    · rw [add_lit]
      refine ⟨by simp, .inr ⟨g, cap, cur.setIfInBounds i (enc y), rfl, h2, ?_, by simpa using h4, h5, by simpa using h6, ?_⟩⟩
      · unfold World.setCell
        simp [Array.getElem?_modify, h3]
      · simp only [Array.toList_setIfInBounds, List.length_set, Nat.mul_one]
        rw [List.take_set, h7, List.map_set]
    · have := grown_set w ((⟨g, 0, none⟩ : Addr).add i) (enc y)
      rw [add_block] at this
      exact this

/-- append, and what the grown slice's elder still reads. -/
theorem ap_many_old (hT : Ty P t e z bytes) (h1 : ∀ x : α, (enc x).oneCell' = true) (ho : Own enc e base w s xs) (hr : Rd enc w s' ys) (hb : base ≤ w.heap.size) (hl : (xs.length + ys.length) * bytes ≤ 140737488355328) :
    ∃ s2 w2, (Builtin.append_ #[t, t] ty #[.slice s.a s.n s.c, .slice s'.a s'.n s'.c]).run P w = .ok (.slice s2.a s2.n s2.c) w2 ∧ Ap enc e base w s (xs ++ ys) s2 w2 ∧ Rd enc w2 s xs := by
  obtain ⟨s2, w2, hrun, hap⟩ := ap_many (ty := ty) hT h1 ho hr hb hl
  refine ⟨s2, w2, hrun, hap, ?_⟩
  rcases ho.form with ⟨rfl, rfl⟩ | ⟨g, cap, cur, rfl, h2, h3, h4, h5, h6, h7⟩
  · exact Rd.nil
  · have hyl := hr.1
    obtain ⟨i0, hi, hz0, hz1, hz2⟩ := info_parts hT.info
    rcases Nat.eq_zero_or_pos s'.n with h0 | h0
    · -- nothing comes
      have hy : ys = [] := List.eq_nil_of_length_eq_zero (by omega)
      subst hy
      rcases hap.blk with hbk | ⟨b, hbk, hge⟩
      · have ha := hap.own.blk_a g hbk
        have hrd := hap.own.rd
        rw [List.append_nil] at hrd
        refine ⟨rfl, h4, h5, fun hn => ?_⟩
        obtain ⟨a, hs2, hc⟩ := hrd.2.2.2 (by have := hrd.1; simp at hn; omega)
        rw [ha] at hs2; cases hs2
        exact ⟨_, rfl, hc⟩
      · exfalso
        have : w2 = w := by
          have hrun2 : (Builtin.append_ #[t, t] ty #[.slice (some ⟨g, 0, none⟩) xs.length cap, .slice s'.a s'.n s'.c]).run P w = .ok (.slice (some ⟨g, 0, none⟩) xs.length cap) w := by
            cases hs'a : s'.a <;> simp [Builtin.append_, run_underlying hT.sl, sizeOf, typeInfo, hi, Builtin.lenOf, h0, Builtin.firstCells, storeCells, loadCells, loadCellsFrom, h4]
          have hrun' := hrun
          simp only at hrun'
          rw [hrun2] at hrun'
          have := congrArg (fun r => match r with | Result.ok _ w => w | _ => w) hrun'
          exact this.symm
        subst this
        have := (hap.own.blk_ge b hbk).2
        omega
    · obtain ⟨ad, had, hc⟩ := hr.2.2.2 h0
      have hcells : ∀ j u, (ys.map enc)[j]? = some u → w.cell? (ad.add j) = some u := by
        intro j u hu
        have hj : j < ys.length := by
          have := (List.getElem?_eq_some_iff.1 hu).1
          simpa using this
        rw [hc j hj]
        simpa [hj] using hu
      by_cases hroom : xs.length + s'.n ≤ cap
      · have hr2 := run_append_room (P := P) w t ty e i0 hT.sl hi g xs.length cap cur h3 ad s'.n s'.c (ys.map enc) (by simp [hz1, hyl]) hcells (oneCells h1 ys) hroom (by simp [hz1]; omega)
        have hrun' := hrun
        rw [had] at hrun'
        simp only at hrun'
        rw [hr2] at hrun'
        have ha : s2.a = some ⟨g, 0, none⟩ := by
          have := congrArg (fun r => match r with | Result.ok v _ => v | _ => .slice none 0 0) hrun'
          simp only [Value.slice.injEq] at this
          exact this.1.symm
        have hrd := hap.own.rd
        refine ⟨rfl, h4, h5, fun hn => ⟨_, rfl, fun j hj => ?_⟩⟩
        obtain ⟨a, hs2, hc2⟩ := hrd.2.2.2 (by have := hrd.1; simp at this hn; omega)
        rw [ha] at hs2; cases hs2
        have := hc2 j (by simp; omega)
        rw [this, List.getElem_append_left hj]
      · have holds : ∀ j u, (xs.map enc)[j]? = some u → w.cell? ((⟨g, 0, none⟩ : Addr).add j) = some u := World.ownsRow.cells ho (g := g) rfl
        obtain ⟨v', w'', hr2, _, hg2⟩ := run_append_arg_grows (P := P) w t ty e i0 z 1 bytes hT.sl hi hz0 hz1 hz2 (by rw [hT.z1]; rfl) (by omega) ⟨g, 0, none⟩ xs.length cap (xs.map enc) (by simp) holds ad s'.n s'.c (ys.map enc) (by simp [hyl]) hcells
          (by omega) (by have := Nat.le_trans (Nat.le_mul_of_pos_right (xs.length + ys.length) hT.b0) hl; simp only [maxLen]; omega) (by rw [← hyl]; exact hl)
        have hrun' := hrun
        rw [had] at hrun'
        simp only at hrun'
        rw [hr2] at hrun'
        have hw : w'' = w2 := by
          have := congrArg (fun r => match r with | Result.ok _ w => w | _ => w) hrun'
          exact this
        subst hw
        exact ho.rd.keep hg2 (by simp)
theorem ap_one_old (hT : Ty P t e z bytes) (h1 : ∀ x : α, (enc x).oneCell' = true) (ho : Own enc e base w s xs) (y : α) (hb : base ≤ w.heap.size) (hl : (xs.length + 1) * bytes ≤ 140737488355328) :
    ∃ s2 w2, (Builtin.append_ #[t, t] ty #[.slice s.a s.n s.c, .slice (some ⟨w.heap.size, 0, none⟩) 1 1]).run P (w.alloc (.cells #[enc y] e)) = .ok (.slice s2.a s2.n s2.c) w2 ∧ Ap enc e base w s (xs ++ [y]) s2 w2 ∧ Rd enc w2 s xs := by
  have hr : Rd enc (w.alloc (.cells #[enc y] e)) ⟨some ⟨w.heap.size, 0, none⟩, 1, 1⟩ [y] := by
    refine ⟨rfl, Nat.le_refl _, by simp [maxLen], fun _ => ⟨_, rfl, fun j hj => ?_⟩⟩
    simp at hj
    subst hj
    have := cell_of_row (w.alloc (.cells #[enc y] e)) w.heap.size 0 #[enc y] e (0, 0) (heap_alloc_new w _)
    simp [Addr.add] at this ⊢
  have ho' : Own enc e base (w.alloc (.cells #[enc y] e)) s xs := World.ownsRow.alloc ho _
  obtain ⟨s2, w2, h2, h3, h4⟩ := ap_many_old (ty := ty) hT h1 ho' hr (by simp; omega) (by simpa using hl)
  refine ⟨s2, w2, h2, ⟨h3.own, World.grownBy.trans (World.grownBy_alloc w _ _) h3.grown, ?_⟩, h4⟩
  rcases h3.blk with h | ⟨b, h, h'⟩
  · exact .inl h
  · exact .inr ⟨b, h, by simp at h'; omega⟩
end
end Go.Proofs.Ytjgijifankaglaa.SX
