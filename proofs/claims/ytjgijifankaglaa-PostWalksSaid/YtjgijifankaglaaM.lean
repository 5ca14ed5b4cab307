/- What a slice reads as, what a call owns, and what append, make, copy, cuts and conversions do to them. -/
import Derived.Test.YtjgijifankaglaaSY
import Derived.Maps.AppendAt
import Derived.Laws.CopyOwn
import Derived.Laws.Slices
import Derived.Laws.BytesArg
import Derived.Lib.ConvBytes
import Derived.WideLaws
namespace Go.Proofs.Ytjgijifankaglaa.SX
open Go Go.RowKit
set_option linter.unusedVariables false
set_option linter.unusedSimpArgs false
set_option linter.unnecessarySimpa false

/-! ### reading -/
def Rd {α : Type} (enc : α → Value) (w : World) (s : Sl) (xs : List α) : Prop :=
  xs.length = s.n ∧ s.n ≤ s.c ∧ s.c ≤ maxLen ∧ (0 < s.n → ∃ a, s.a = some a ∧ ∀ j (h : j < xs.length), w.cell? (a.add j) = some (enc xs[j]))
/-- What a slice of whole cells is made of. -/
structure Ty (P : Program) (t e : TypeId) (z : Value) (bytes : Nat) : Prop where
  sl : P.underlying t = some (.slice e)
  info : (P.info? e).map (fun i => (i.zero, i.size, i.bytes)) = some (some z, 1, bytes)
  z1 : z.cells = #[z]
  b0 : 0 < bytes

section
variable {α : Type} {enc : α → Value} {P : Program} {w w' w1 : World} {s s' : Sl} {xs ys : List α} {t e ty base bytes : Nat} {z : Value}

theorem Ty.size (h : Ty P t e z bytes) : (P.info? e).map (·.size) = some 1 := by
  obtain ⟨i, hi, h0, h1, h2⟩ := info_parts h.info
  simp [hi, h1]

theorem Rd.len (h : Rd enc w s xs) : xs.length = s.n := h.1
theorem Rd.at (h : Rd enc w s xs) (i : Nat) (hi : i < xs.length) : ∃ a, s.a = some a ∧ w.cell? (a.add i) = some (enc xs[i]) := by
  obtain ⟨a, h1, h2⟩ := h.2.2.2 (by have := h.1; omega)
  exact ⟨a, h1, h2 i hi⟩
theorem Rd.below (h : Rd enc w s xs) (hb : Below w.heap.size w w') : Rd enc w' s xs :=
  ⟨h.1, h.2.1, h.2.2.1, fun h0 => by
    obtain ⟨a, h1, h2⟩ := h.2.2.2 h0
    exact ⟨a, h1, fun j hj => by rw [hb.cell (World.block_lt_of_cell? w _ (h2 j hj))]; exact h2 j hj⟩⟩
theorem Rd.of_cells (h : Rd enc w s xs) (hc : ∀ p v, w.cell? p = some v → (∃ a, s.a = some a ∧ p.block = a.block) → w'.cell? p = some v) : Rd enc w' s xs :=
  ⟨h.1, h.2.1, h.2.2.1, fun h0 => by
    obtain ⟨a, h1, h2⟩ := h.2.2.2 h0
    refine ⟨a, h1, fun j hj => hc _ _ (h2 j hj) ⟨a, h1, ?_⟩⟩
    unfold Addr.add; split <;> rfl⟩
theorem Rd.nil : Rd enc w ⟨none, 0, 0⟩ [] := ⟨rfl, Nat.le_refl _, by simp [maxLen], fun h => absurd h (by simp)⟩
theorem Rd.take (h : Rd enc w s xs) (i : Nat) (hi : i ≤ xs.length) : Rd enc w ⟨s.a, i, s.c⟩ (xs.take i) := by
  have h1 := h.1
  refine ⟨by simp; omega, by have := h.2.1; show i ≤ s.c; omega, h.2.2.1, fun h0 => ?_⟩
  obtain ⟨a, ha, hc⟩ := h.2.2.2 (by show 0 < s.n; simp at h0; omega)
  refine ⟨a, ha, fun j hj => ?_⟩
  simp at hj
  rw [hc j (by omega)]
  simp
theorem add_add (a : Addr) (i j : Nat) : (a.add i).add j = a.add (i + j) := by
  unfold Addr.add
  by_cases h1 : i = 0 <;> by_cases h2 : j = 0 <;> simp [h1, h2, Nat.add_assoc]
theorem Rd.drop (h : Rd enc w s xs) (i : Nat) (hi : i ≤ xs.length) : Rd enc w ⟨if s.c = i then s.a else s.a.map (·.add i), s.n - i, s.c - i⟩ (xs.drop i) := by
  have h1 := h.1
  have h2 := h.2.1
  refine ⟨by simp; omega, by show s.n - i ≤ s.c - i; omega, by have := h.2.2.1; show s.c - i ≤ maxLen; omega, fun h0 => ?_⟩
  have h0' : 0 < s.n - i := h0
  obtain ⟨a, ha, hc⟩ := h.2.2.2 (by omega)
  refine ⟨a.add i, ?_, fun j hj => ?_⟩
  · show (if s.c = i then s.a else s.a.map (·.add i)) = _
    rw [if_neg (by omega), ha]; rfl
  · simp at hj
    rw [add_add, hc (i + j) (by omega)]
    simp

/-! ### owning -/
def Own {α : Type} (enc : α → Value) (e : TypeId) (base : Nat) (w : World) (s : Sl) (xs : List α) : Prop := w.ownsRow base e 1 s.v s.n (xs.map enc)
def Sl.blk (s : Sl) : Option Nat := s.v.ownBlock

theorem Own.len (h : Own enc e base w s xs) : xs.length = s.n := by have := h.1; simpa using this
theorem Own.form (h : Own enc e base w s xs) : (s = ⟨none, 0, 0⟩ ∧ xs = []) ∨ ∃ g cap cur, s = ⟨some ⟨g, 0, none⟩, xs.length, cap⟩ ∧ base ≤ g ∧ w.heap[g]? = some (.cells cur e (0, 0)) ∧ xs.length ≤ cap ∧ cap ≤ maxLen ∧ cur.size = cap ∧ cur.toList.take xs.length = xs.map enc := by
  have hl := h.len
  rcases h.2 with ⟨h1, h2⟩ | ⟨g, cap, cur, h1, h2, h3, h4, h5, h6, h7⟩
  · left
    obtain ⟨a, n, c⟩ := s
    simp only [Sl.v, Value.slice.injEq] at h1
    obtain ⟨rfl, rfl, rfl⟩ := h1
    exact ⟨rfl, List.eq_nil_of_length_eq_zero hl⟩
  · right
    obtain ⟨a, n, c⟩ := s
    simp only [Sl.v, Value.slice.injEq] at h1 h4 h6 h7 hl
    obtain ⟨rfl, _, rfl⟩ := h1
    exact ⟨g, c, cur, by rw [hl], h2, h3, by omega, h5, by simpa using h6, by rw [hl]; simpa using h7⟩
theorem Own.rd (h : Own enc e base w s xs) : Rd enc w s xs := by
  rcases h.form with ⟨rfl, rfl⟩ | ⟨g, cap, cur, rfl, h2, h3, h4, h5, h6, h7⟩
  · exact Rd.nil
  · refine ⟨rfl, h4, h5, fun h0 => ⟨_, rfl, fun j hj => ?_⟩⟩
    have ha : (⟨g, 0, none⟩ : Addr).add j = ⟨g, j, none⟩ := by unfold Addr.add; split <;> simp_all
    rw [ha, cell_of_row w g j cur e (0, 0) h3]
    have h8 : (cur.toList.take xs.length)[j]? = (xs.map enc)[j]? := by rw [h7]
    rw [List.getElem?_take, if_pos hj] at h8
    simpa [hj] using h8
theorem Own.nil : Own enc e base w ⟨none, 0, 0⟩ ([] : List α) := World.ownsRow_nil w base e 1
theorem Own.kept (h : Own enc e base w s xs) {row : Option Nat} (hg : w.grownBy w' row) (hne : s.blk = none ∨ s.blk ≠ row) : Own enc e base w' s xs := World.ownsRow.kept h hg hne
theorem grown_of_below' (h : Below w.heap.size w w1) (row : Option Nat) : w.grownBy w1 row := ⟨h.os, h.tape, h.output, h.size, fun i hi _ => h.block i hi⟩
theorem Own.below (h : Own enc e base w s xs) (hb : Below w.heap.size w w') : Own enc e base w' s xs := h.kept (grown_of_below' hb none) (by cases s.blk <;> simp)
theorem Own.lower (h : Own enc e base w s xs) {b : Nat} (hb : b ≤ base) : Own enc e b w s xs := by
  refine ⟨h.1, ?_⟩
  rcases h.2 with h1 | ⟨g, cap, cur, h1, h2, r⟩
  · exact .inl h1
  · exact .inr ⟨g, cap, cur, h1, by omega, r⟩
theorem Own.blk_ge (h : Own enc e base w s xs) (k : Nat) (hk : s.blk = some k) : base ≤ k ∧ k < w.heap.size := World.ownsRow.lt h k hk
theorem oneCells (h1 : ∀ x : α, (enc x).oneCell' = true) (xs : List α) : ∀ u ∈ xs.map enc, u.oneCell' = true := by
  intro u hu
  obtain ⟨x, _, rfl⟩ := List.mem_map.1 hu
  exact h1 x

/-- What an append leaves: the row, grown; all else as it was. -/
structure Ap {α : Type} (enc : α → Value) (e : TypeId) (base : Nat) (w : World) (s : Sl) (ys : List α) (s' : Sl) (w' : World) : Prop where
  own : Own enc e base w' s' ys
  grown : w.grownBy w' s.blk
  blk : s'.blk = s.blk ∨ ∃ b, s'.blk = some b ∧ w.heap.size ≤ b
theorem Ap.below (h : Ap enc e base w s ys s' w') (ho : Own enc e base w s xs) (hb : base ≤ w.heap.size) {w0 : World} (hw : Below base w0 w) : Below base w0 w' :=
  hw.grown h.grown hb fun k hk => (ho.blk_ge k hk).1

theorem ap_many (hT : Ty P t e z bytes) (h1 : ∀ x : α, (enc x).oneCell' = true) (ho : Own enc e base w s xs) (hr : Rd enc w s' ys) (hb : base ≤ w.heap.size) (hl : (xs.length + ys.length) * bytes ≤ 140737488355328) :
    ∃ s2 w2, (Builtin.append_ #[t, t] ty #[.slice s.a s.n s.c, .slice s'.a s'.n s'.c]).run P w = .ok (.slice s2.a s2.n s2.c) w2 ∧ Ap enc e base w s (xs ++ ys) s2 w2 := by
  obtain ⟨i0, hi, hz0, hz1, hz2⟩ := info_parts hT.info
  have hlen : xs.length + ys.length ≤ 140737488355328 := Nat.le_trans (Nat.le_mul_of_pos_right _ hT.b0) hl
  have hxl := ho.len
  have hyl := hr.1
  rcases Nat.eq_zero_or_pos s'.n with h0 | h0
  · have hy : ys = [] := List.eq_nil_of_length_eq_zero (by omega)
    subst hy
    refine ⟨s, w, ?_, ⟨by simpa using ho, World.grownBy.refl w _, .inl rfl⟩⟩
    have hle : s.n ≤ s.c := ho.rd.2.1
    have hnil : s.a = none → s.n = 0 := fun hn => by
      rcases ho.form with ⟨rfl, _⟩ | ⟨g, cap, cur, rfl, _⟩
      · rfl
      · cases hn
    cases hsa : s.a <;> cases hs'a : s'.a <;>
      simp [Builtin.append_, run_underlying hT.sl, sizeOf, typeInfo, hi, Builtin.lenOf, h0, Builtin.firstCells, storeCells, loadCells, loadCellsFrom, hle]
  · obtain ⟨ad, had, hc⟩ := hr.2.2.2 h0
    have hcells : ∀ j u, (ys.map enc)[j]? = some u → w.cell? (ad.add j) = some u := by
      intro j u hu
      have hj : j < ys.length := by
        have := (List.getElem?_eq_some_iff.1 hu).1
        simpa using this
      rw [hc j hj]
      simpa [hj] using hu
    obtain ⟨v1, w2, hrun, h2, h3, _, h5⟩ := run_append_own_at (P := P) w base t ty e i0 z 1 bytes hT.sl hi hz0 hz1 hz2 (by rw [hT.z1]; rfl) (by omega) s.v s.n (xs.map enc) ho ad s'.n s'.c (ys.map enc) (by simp [hyl]) hcells
      (oneCells h1 ys) (by simp only [maxLen]; omega) (by rw [← hxl, ← hyl]; exact hl) hb
    have hv : ∃ s2 : Sl, v1 = s2.v ∧ s2.n = s.n + s'.n := by
      rcases h2.2 with ⟨h, hn⟩ | ⟨g, cap, cur, h, _⟩
      · exact ⟨⟨none, 0, 0⟩, h, by simpa using hn.symm⟩
      · exact ⟨⟨some ⟨g, 0, none⟩, s.n + s'.n, cap⟩, h, rfl⟩
    obtain ⟨s2, rfl, hn⟩ := hv
    refine ⟨s2, w2, by rw [had]; exact hrun, ⟨?_, h3, ?_⟩⟩
    · unfold Own; rw [hn, List.map_append]; exact h2
    · rcases h5 with h5 | h5
      · exact .inl h5
      · exact .inr ⟨_, h5, Nat.le_refl _⟩

theorem ap_one (hT : Ty P t e z bytes) (h1 : ∀ x : α, (enc x).oneCell' = true) (ho : Own enc e base w s xs) (y : α) (hb : base ≤ w.heap.size) (hl : (xs.length + 1) * bytes ≤ 140737488355328) :
    ∃ s2 w2, (Builtin.append_ #[t, t] ty #[.slice s.a s.n s.c, .slice (some ⟨w.heap.size, 0, none⟩) 1 1]).run P (w.alloc (.cells #[enc y] e)) = .ok (.slice s2.a s2.n s2.c) w2 ∧ Ap enc e base w s (xs ++ [y]) s2 w2 := by
  have hr : Rd enc (w.alloc (.cells #[enc y] e)) ⟨some ⟨w.heap.size, 0, none⟩, 1, 1⟩ [y] := by
    refine ⟨rfl, Nat.le_refl _, by simp [maxLen], fun _ => ⟨_, rfl, fun j hj => ?_⟩⟩
    simp at hj
    subst hj
    have := cell_of_row (w.alloc (.cells #[enc y] e)) w.heap.size 0 #[enc y] e (0, 0) (heap_alloc_new w _)
    simpa [Addr.add] using this
  have ho' : Own enc e base (w.alloc (.cells #[enc y] e)) s xs := World.ownsRow.alloc ho _
  obtain ⟨s2, w2, h2, h3⟩ := ap_many (ty := ty) hT h1 ho' hr (by simp; omega) (by simpa using hl)
  refine ⟨s2, w2, h2, ⟨h3.own, World.grownBy.trans (World.grownBy_alloc w _ _) h3.grown, ?_⟩⟩
  rcases h3.blk with h | ⟨b, h, h'⟩
  · exact .inl h
  · exact .inr ⟨b, h, by simp at h'; omega⟩

/-- append to nil of what is read -/
theorem ap_nil (hT : Ty P t e z bytes) (h1 : ∀ x : α, (enc x).oneCell' = true) (hr : Rd enc w s' ys) (hl : ys.length * bytes ≤ 140737488355328) :
    ∃ s2 w2, (Builtin.append_ #[t, t] ty #[.slice none 0 0, .slice s'.a s'.n s'.c]).run P w = .ok (.slice s2.a s2.n s2.c) w2 ∧ Own enc e w.heap.size w2 s2 ys ∧ Below w.heap.size w w2 := by
  obtain ⟨s2, w2, h2, h3⟩ := ap_many (ty := ty) (base := w.heap.size) (s := ⟨none, 0, 0⟩) (xs := []) hT h1 Own.nil hr (Nat.le_refl _) (by simpa using hl)
  exact ⟨s2, w2, h2, by simpa using h3.own, h3.below Own.nil (Nat.le_refl _) (Below.refl _ _)⟩

/-! ### make -/
theorem mk_own (hT : Ty P t e z bytes) {x : α} (hz : z = enc x) (L C : Int) (n m : Nat) (hL : L = n) (hC : C = m) (hnm : n ≤ m) (hb : bytes * m ≤ 281474976710656) (h63 : m ≤ maxLen) :
    (Instr.makeSlice t (.int .i64 L) (.int .i64 C)).run P w = .ok (.slice (some ⟨w.heap.size, 0, none⟩) n m) (w.alloc (.cells (madeCells #[z] m) e)) ∧
      Own enc e w.heap.size (w.alloc (.cells (madeCells #[z] m) e)) ⟨some ⟨w.heap.size, 0, none⟩, n, m⟩ (List.replicate n x) ∧ Below w.heap.size w (w.alloc (.cells (madeCells #[z] m) e)) := by
  obtain ⟨i0, hi, hz0, hz1, hz2⟩ := info_parts hT.info
  subst hL; subst hC
  have h63' : (m : Int) ≤ 9223372036854775807 := by simp only [maxLen] at h63; omega
  have := run_make (P := P) w t e i0 z hT.sl hi hz0 .i64 .i64 (n : Int) (m : Int) (by omega) (by omega) (by rw [hz2, ← Int.natCast_mul]; omega) h63'
  refine ⟨by simpa [hz1, hT.z1] using this, ⟨by simp, .inr ⟨w.heap.size, m, _, rfl, Nat.le_refl _, heap_alloc_new w _, hnm, h63, by simp [size_madeCells], ?_⟩⟩, (Below.refl _ _).alloc (Nat.le_refl _) _⟩
  apply List.ext_getElem
  · simp [madeCells]; omega
  · intro i h1 h2
    simp [madeCells, Nat.mod_one, hz]

/-! ### copy into an owned row, from its head -/
theorem cp_own (hT : Ty P t e z bytes) (h1 : ∀ x : α, (enc x).oneCell' = true) (ho : Own enc e base w s xs) (hr : Rd enc w s' ys) :
    ∃ k w', (Builtin.copy_ #[t, t] ty #[.slice s.a s.n s.c, .slice s'.a s'.n s'.c]).run P w = .ok (.int .i64 k) w' ∧ k = (Nat.min s'.n s.n : Nat) ∧ Own enc e base w' s (ys.take xs.length ++ xs.drop ys.length) ∧ w.grownBy w' s.blk := by
  have hxl := ho.len
  have hyl := hr.1
  by_cases h0 : Nat.min s'.n s.n = 0
  · refine ⟨0, w, run_copy_none w t t ty e _ _ _ _ _ _ hT.sl hT.size h0, by rw [h0]; rfl, ?_, World.grownBy.refl _ _⟩
    have hh : ys.take xs.length ++ xs.drop ys.length = xs := by
      rcases Nat.eq_zero_or_pos s'.n with hm | hm
      · obtain rfl : ys = [] := List.eq_nil_of_length_eq_zero (by omega)
        simp
      · have hn : s.n = 0 := by simp only [Nat.min_def] at h0; split at h0 <;> omega
        obtain rfl : xs = [] := List.eq_nil_of_length_eq_zero (by omega)
        simp
    rw [hh]; exact ho
  · have hmin : Nat.min s'.n s.n ≤ s'.n ∧ Nat.min s'.n s.n ≤ s.n := ⟨Nat.min_le_left _ _, Nat.min_le_right _ _⟩
    have hmp : 0 < s'.n := by omega
    obtain ⟨ad, had, hcell⟩ := hr.2.2.2 hmp
    rcases ho.form with ⟨rfl, rfl⟩ | ⟨g, cap, cur, rfl, h2, h3, h4, h5, h6, h7⟩
    · exact absurd (Nat.le_zero.1 (show Nat.min s'.n 0 ≤ 0 from hmin.2)) h0
    · simp only at hxl hmin h0 ⊢
      have hcl : ((ys.take xs.length).map enc).length = Nat.min s'.n xs.length := by
        simp only [List.length_map, List.length_take, hyl]
        exact Nat.min_comm _ _
      have hrun := run_copy_row (P := P) w t t ty e g 0 xs.length cap ad s'.n s'.c cur e ((ys.take xs.length).map enc) hT.sl hT.size h3 hcl
        (by
          intro j v hj
          have hjl : j < ((ys.take xs.length).map enc).length := (List.getElem?_eq_some_iff.1 hj).1
          rw [hcl] at hjl
          rw [hcell j (by omega)]
          have : j < xs.length := by omega
          simpa [List.getElem?_take, this, show j < ys.length by omega] using hj)
        (by rw [hcl]; omega) (oneCells h1 _)
      rw [hcl, ← had] at hrun
      refine ⟨_, _, hrun, rfl, ?_, ⟨rfl, rfl, rfl, by simp [World.setRow], fun k _ hk => setRow_other w g k _ (fun e => hk (by simp [Sl.blk, Value.ownBlock, e]))⟩⟩
      refine ⟨?_, .inr ⟨g, cap, _, rfl, h2, setRow_heap w g _ _ e _ h3, h4, h5, ?_, ?_⟩⟩
      · simp only [List.length_map, List.length_append, List.length_take, List.length_drop, Nat.mul_one]
        simp only [Nat.min_def]; split <;> omega
      · simp only [List.take_zero, List.nil_append, List.size_toArray, List.length_append, List.length_drop, Array.length_toList, hcl]
        omega
      · have hlt : ((ys.take xs.length).map enc ++ List.drop (0 + Nat.min s'.n xs.length) cur.toList).take (xs.length * 1) = (ys.take xs.length ++ xs.drop ys.length).map enc := by
          rw [List.map_append, List.take_append, hcl]
          have e1 : List.take (xs.length * 1) ((ys.take xs.length).map enc) = (ys.take xs.length).map enc := List.take_of_length_le (by rw [hcl]; omega)
          rw [e1]
          congr 1
          have e2 : (xs.map enc).drop (Nat.min s'.n xs.length) = (xs.drop ys.length).map enc := by
            rw [← List.map_drop]
            congr 1
            rw [hyl]
            by_cases hmn : s'.n ≤ xs.length
            · rw [show Nat.min s'.n xs.length = s'.n from Nat.min_eq_left hmn]
            · rw [show Nat.min s'.n xs.length = xs.length from Nat.min_eq_right (by omega), List.drop_eq_nil_of_le (by omega), List.drop_eq_nil_of_le (by omega)]
          rw [← e2, ← h7, Nat.zero_add, Nat.mul_one, List.drop_take]
        simpa [hcl] using hlt

/-! ### cuts -/
theorem sliceAt_eq (hT : P.underlying t = some (.slice e)) (x : Value) (lo hi mx : Option Value) : (Instr.sliceAt t x lo hi mx).run P w = (Instr.slice t x lo hi mx).run P w := by
  have hel : P.elem t = e := by simp [Program.elem, hT]
  exact run_sliceAt_slice w t x lo hi mx (by rw [hel]; exact hT)
theorem cut_run (hT : Ty P t e z bytes) (s : Sl) (lo hi : Int) (l h : Nat) (hlo : lo = l) (hhi : hi = h) (hlh : l ≤ h) (hc : h ≤ s.c) :
    (Instr.sliceAt t (.slice s.a s.n s.c) (some (.int .i64 lo)) (some (.int .i64 hi)) none).run P w = .ok (.slice (if s.c = l then s.a else s.a.map (·.add l)) (h - l) (s.c - l)) w := by
  obtain ⟨i0, hi0, hz0, hz1, hz2⟩ := info_parts hT.info
  subst hlo; subst hhi
  have hel : P.elem t = e := by simp [Program.elem, hT.sl]
  rw [sliceAt_eq hT.sl, run_slice_lh w t s.a s.n s.c (by rw [hel]; exact hT.sl) .i64 .i64 (l : Int) (h : Int) (by omega) (by omega) (by omega), hel]
  simp [sizeOf, typeInfo, hi0, hz1, sliced, Result.andThen]
theorem cut_hi (hT : Ty P t e z bytes) (s : Sl) (hi : Int) (h : Nat) (hhi : hi = h) (hc : h ≤ s.c) :
    (Instr.sliceAt t (.slice s.a s.n s.c) none (some (.int .i64 hi)) none).run P w = .ok (.slice s.a h s.c) w := by
  obtain ⟨i0, hi0, hz0, hz1, hz2⟩ := info_parts hT.info
  subst hhi
  have hel : P.elem t = e := by simp [Program.elem, hT.sl]
  have ha : (s.a.map fun x => x.add 0) = s.a := by cases s.a <;> simp [Addr.add]
  rw [sliceAt_eq hT.sl, run_slice_h w t s.a s.n s.c (by rw [hel]; exact hT.sl) .i64 (h : Int) (by omega) (by omega), hel]
  simp [sizeOf, typeInfo, hi0, hz1, sliced, Result.andThen, ha]
theorem cut_lo (hT : Ty P t e z bytes) (s : Sl) (lo : Int) (l : Nat) (hlo : lo = l) (hln : l ≤ s.n) :
    (Instr.sliceAt t (.slice s.a s.n s.c) (some (.int .i64 lo)) none none).run P w = .ok (.slice (if s.c = l then s.a else s.a.map (·.add l)) (s.n - l) (s.c - l)) w := by
  obtain ⟨i0, hi0, hz0, hz1, hz2⟩ := info_parts hT.info
  subst hlo
  have hel : P.elem t = e := by simp [Program.elem, hT.sl]
  rw [sliceAt_eq hT.sl, run_slice_l w t s.a s.n s.c (by rw [hel]; exact hT.sl) .i64 (l : Int) (by omega) (by omega), hel]
  simp [sizeOf, typeInfo, hi0, hz1, sliced, Result.andThen]
theorem Rd.mid (h : Rd enc w s xs) (l m : Nat) (hlm : l ≤ m) (hm : m ≤ xs.length) : Rd enc w ⟨if s.c = l then s.a else s.a.map (·.add l), m - l, s.c - l⟩ ((xs.take m).drop l) := by
  have := (h.take m hm).drop l (by simp; omega)
  simpa using this
end
end Go.Proofs.Ytjgijifankaglaa.SX
