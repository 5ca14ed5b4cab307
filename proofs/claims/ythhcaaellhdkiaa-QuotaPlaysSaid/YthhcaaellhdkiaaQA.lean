/- A map from strings to accounts, and rows of five cells. -/
import Derived.Test.YthhcaaellhdkiaaQR
import Derived.MapKept
import Derived.RangeFuncRecord
import Derived.Laws.StructEq
namespace Go.Proofs.Ythhcaaellhdkiaa
open Go Go.RowKit Go.Proofs.Ythhcaaellhdkiaa.SX
open Go.MapKept (run_setObj_map run_checkKey run_findKey IsKey run_keyThatStays bytes_beq)
set_option linter.unusedVariables false

structure Acc where
  ms : Int
  mp : Int
  sr : Int
  wr : Int
  wi : Int
@[reducible] def Acc.l (a : Acc) : List Value := [.int .i64 a.ms, .int .i64 a.mp, .int .i64 a.sr, .int .i64 a.wr, .int .i64 a.wi]
@[reducible] def Acc.v (a : Acc) : Value := .agg #[.int .i64 a.ms, .int .i64 a.mp, .int .i64 a.sr, .int .i64 a.wr, .int .i64 a.wi]
@[reducible] def Acc.row (a : Acc) : Array Value := #[.int .i64 a.ms, .int .i64 a.mp, .int .i64 a.sr, .int .i64 a.wr, .int .i64 a.wi]
def Acc.zero : Acc := ⟨0, 0, 0, 0, 0⟩

/-! ### a row of five cells -/
section
variable {w : World} {g e : Nat} {a b : Acc} {S : Nat → Prop}
theorem gr_setl (w : World) (g j : Nat) (v : Value) : Gr (fun k => k = g) w (w.setCell ⟨g, j, none⟩ v) := gr_set w ⟨g, j, none⟩ v
def Row5 (w : World) (g : Nat) (e : Nat) (a : Acc) : Prop := w.heap[g]? = some (.cells a.row e (0, 0))
theorem Row5.new (w : World) (a : Acc) (e : Nat) : Row5 (w.alloc (.cells a.row e)) w.heap.size e a := heap_alloc_new w _
theorem Row5.c0 (h : Row5 w g e a) : w.cell? ⟨g, 0, none⟩ = some (.int .i64 a.ms) := by rw [row_get h]; rfl
theorem Row5.c1 (h : Row5 w g e a) : w.cell? ((⟨g, 0, none⟩ : Addr).add 1) = some (.int .i64 a.mp) := by rw [add_lit, row_get h]; rfl
theorem Row5.c2 (h : Row5 w g e a) : w.cell? ((⟨g, 0, none⟩ : Addr).add 2) = some (.int .i64 a.sr) := by rw [add_lit, row_get h]; rfl
theorem Row5.c3 (h : Row5 w g e a) : w.cell? ((⟨g, 0, none⟩ : Addr).add 3) = some (.int .i64 a.wr) := by rw [add_lit, row_get h]; rfl
theorem Row5.c4 (h : Row5 w g e a) : w.cell? ((⟨g, 0, none⟩ : Addr).add 4) = some (.int .i64 a.wi) := by rw [add_lit, row_get h]; rfl
theorem Row5.has (h : Row5 w g e a) (j : Nat) (hj : j < 5) : HasCell w ((⟨g, 0, none⟩ : Addr).add j) := by rw [add_lit]; exact row_has h (by simpa using hj)
theorem Row5.hass (h : Row5 w g e a) : HasCells w (⟨g, 0, none⟩ : Addr) 0 5 := ⟨h.has 0 (by omega), h.has 1 (by omega), h.has 2 (by omega), h.has 3 (by omega), h.has 4 (by omega), trivial⟩
theorem Row5.at (h : Row5 w g e a) : CellsAt w (⟨g, 0, none⟩ : Addr) 0 a.l := ⟨h.c0, h.c1, h.c2, h.c3, h.c4, trivial⟩
theorem Row5.keep {w' : World} (h : Row5 w g e a) (hg : Gr S w w') (hn : ¬ S g) : Row5 w' g e a := hg.blk h hn
theorem Row5.sets (h : Row5 w g e a) (b : Acc) : Row5 (setCells w (⟨g, 0, none⟩ : Addr) 0 b.l) g e b ∧ Gr (fun k => k = g) w (setCells w (⟨g, 0, none⟩ : Addr) 0 b.l) := by
  have s1 := row_set (j := 0) h (.int .i64 b.ms)
  have s2 := row_set (j := 1) s1 (.int .i64 b.mp)
  have s3 := row_set (j := 2) s2 (.int .i64 b.sr)
  have s4 := row_set (j := 3) s3 (.int .i64 b.wr)
  have s5 := row_set (j := 4) s4 (.int .i64 b.wi)
  have e : setCells w (⟨g, 0, none⟩ : Addr) 0 b.l = ((((w.setCell ⟨g, 0, none⟩ (.int .i64 b.ms)).setCell ⟨g, 1, none⟩ (.int .i64 b.mp)).setCell ⟨g, 2, none⟩ (.int .i64 b.sr)).setCell ⟨g, 3, none⟩ (.int .i64 b.wr)).setCell ⟨g, 4, none⟩ (.int .i64 b.wi) := by
    simp only [setCells, add_lit]
  rw [e]
  refine ⟨s5, ?_⟩
  exact ((((gr_setl w g 0 _).trans (gr_setl _ g 1 _) (fun _ _ h => h)).trans (gr_setl _ g 2 _) (fun _ _ h => h)).trans (gr_setl _ g 3 _) (fun _ _ h => h)).trans (gr_setl _ g 4 _) (fun _ _ h => h)
theorem Row5.s2 (h : Row5 w g e a) (x : Int) : Row5 (w.setCell ((⟨g, 0, none⟩ : Addr).add 2) (.int .i64 x)) g e { a with sr := x } ∧ Gr (fun k => k = g) w (w.setCell ((⟨g, 0, none⟩ : Addr).add 2) (.int .i64 x)) := by
  rw [add_lit]; exact ⟨row_set h _, gr_setl _ _ _ _⟩
theorem Row5.s3 (h : Row5 w g e a) (x : Int) : Row5 (w.setCell ((⟨g, 0, none⟩ : Addr).add 3) (.int .i64 x)) g e { a with wr := x } ∧ Gr (fun k => k = g) w (w.setCell ((⟨g, 0, none⟩ : Addr).add 3) (.int .i64 x)) := by
  rw [add_lit]; exact ⟨row_set h _, gr_setl _ _ _ _⟩
theorem Row5.s4 (h : Row5 w g e a) (x : Int) : Row5 (w.setCell ((⟨g, 0, none⟩ : Addr).add 4) (.int .i64 x)) g e { a with wi := x } ∧ Gr (fun k => k = g) w (w.setCell ((⟨g, 0, none⟩ : Addr).add 4) (.int .i64 x)) := by
  rw [add_lit]; exact ⟨row_set h _, gr_setl _ _ _ _⟩
end

/-! ### lists of accounts -/
abbrev Accs := List (ByteArray × Acc)
def look : Accs → ByteArray → Option (Nat × Acc)
  | [], _ => none
  | (k, a) :: m, t => if t = k then some (0, a) else (look m t).map fun x => (x.1 + 1, x.2)
def getA (m : Accs) (t : ByteArray) : Acc := ((look m t).map (·.2)).getD .zero
def put (m : Accs) (t : ByteArray) (a : Acc) : Accs := match look m t with
  | some (i, _) => m.set i (t, a)
  | none => m ++ [(t, a)]
def del (m : Accs) (t : ByteArray) : Accs := match look m t with
  | some (i, _) => m.eraseIdx i
  | none => m
theorem look_at : ∀ {m : Accs} {t : ByteArray} {i : Nat} {a : Acc}, look m t = some (i, a) → m[i]? = some (t, a)
  | [], t, i, a, h => by simp [look] at h
  | (k, b) :: m, t, i, a, h => by
    simp only [look] at h
    split at h
    · rename_i e
      simp at h
      obtain ⟨rfl, rfl⟩ := h
      simp [e]
    · obtain ⟨⟨j, c⟩, h1, h2⟩ := Option.map_eq_some_iff.1 h
      simp at h2
      obtain ⟨rfl, rfl⟩ := h2
      simpa using look_at h1
/-- what a map's entries are -/
def Ent (m : Accs) (es : List MapEntry) : Prop := es.map (fun e => (e.key, e.val)) = m.map (fun x => (Value.string x.1, x.2.v))
theorem Ent.len {m : Accs} {es : List MapEntry} (h : Ent m es) : es.length = m.length := by
  have := congrArg List.length h
  simpa using this
theorem Ent.at {m : Accs} {es : List MapEntry} (h : Ent m es) {i : Nat} {t : ByteArray} {a : Acc} (hi : m[i]? = some (t, a)) : ∃ e, es[i]? = some e ∧ e.key = .string t ∧ e.val = a.v := by
  have := congrArg (fun l => l[i]?) h
  simp only [List.getElem?_map, hi, Option.map_some] at this
  obtain ⟨e, h1, h2⟩ := Option.map_eq_some_iff.1 this
  simp only [Prod.mk.injEq] at h2
  exact ⟨e, h1, h2⟩
theorem findNow_look (t : ByteArray) : ∀ (es : List MapEntry) (m : Accs) (i : Nat), Ent m es → Instr.findNow .string (.string t) es i = some ((look m t).map fun x => (i + x.1, x.2.v))
  | [], m, i, h => by
    have := h.len
    obtain rfl : m = [] := List.eq_nil_of_length_eq_zero (by simpa using this.symm)
    rfl
  | e :: es, [], i, h => by have := h.len; simp at this
  | e :: es, (k, a) :: m, i, h => by
    unfold Ent at h
    simp only [List.map_cons, List.cons.injEq, Prod.mk.injEq] at h
    obtain ⟨⟨h1, h2⟩, h3⟩ := h
    have ih := findNow_look t es m (i + 1) h3
    simp only [Instr.findNow, h1, Instr.sameNow, look]
    by_cases hk : t = k
    · have : (t == k) = true := (bytes_beq t k).2 hk
      rw [this, if_pos hk]
      simp [h2]
    · have : (t == k) = false := by
        cases hb : (t == k) with
        | false => rfl
        | true => exact absurd ((bytes_beq t k).1 hb) hk
      rw [this, if_neg hk]
      simp only [ih, Option.map_map]
      congr 1
      cases look m t with
      | none => rfl
      | some x => simp; omega

theorem map_eraseIdx' {α β : Type} (f : α → β) : ∀ (l : List α) (i : Nat), (l.eraseIdx i).map f = (l.map f).eraseIdx i
  | [], _ => rfl
  | _ :: _, 0 => rfl
  | x :: l, i + 1 => by simp [map_eraseIdx' f l i]
/-- a book: its map's content -/
structure Bk (w : World) (q b : Nat) (m : Accs) : Prop where
  cell : w.heap[q]? = some (.cells #[.map (some b)] 107 (0, 0))
  ent : ∃ es clock, w.heap[b]? = some (.map es clock) ∧ Ent m es.toList
section
variable {w w' : World} {q b : Nat} {m : Accs} {S : Nat → Prop} {t : ByteArray}
theorem map_lt {es : Array MapEntry} {clock : Nat} (h : w.heap[b]? = some (.map es clock)) : b < w.heap.size := by
  rcases Nat.lt_or_ge b w.heap.size with h' | h'
  · exact h'
  · rw [Array.getElem?_eq_none h'] at h; cases h
theorem Bk.keep (h : Bk w q b m) (hg : Gr S w w') (hq : ¬ S q) (hb : ¬ S b) : Bk w' q b m := by
  obtain ⟨es, clock, h1, h2⟩ := h.ent
  exact ⟨hg.blk h.cell hq, es, clock, by rw [hg.block b (map_lt h1) hb]; exact h1, h2⟩
theorem Bk.lt (h : Bk w q b m) : q < w.heap.size ∧ b < w.heap.size := by
  obtain ⟨es, clock, h1, h2⟩ := h.ent
  exact ⟨row_lt h.cell, map_lt h1⟩
theorem Bk.ne (h : Bk w q b m) : q ≠ b := by
  obtain ⟨es, clock, h1, h2⟩ := h.ent
  intro e; subst e
  have := h.cell.symm.trans h1
  cases this
theorem Bk.c (h : Bk w q b m) : w.cell? ⟨q, 0, none⟩ = some (.map (some b)) := by rw [row_get h.cell]; rfl
theorem key_s (t : ByteArray) : IsKey .string (.string t) := by simp [IsKey]
theorem kd9 : Try.prog.underlying 9 = some .string := Try.underlying9
theorem kd105 : Try.prog.underlying 105 = some (.map 9 87) := Try.underlying105
theorem zero87 (w : World) : (zeroValue 87).run Try.prog w = .ok Acc.zero.v w := by kernel_rfl
theorem Bk.look2 (h : Bk w q b m) (t : ByteArray) : (Instr.lookup 105 (.map (some b)) (.string t) true).run Try.prog w = .ok (.tuple #[(getA m t).v, .bool (look m t).isSome]) w := by
  obtain ⟨es, clock, h1, h2⟩ := h.ent
  have hf := findNow_look t es.toList m 0 h2
  have hk := run_findKey (P := Try.prog) (w := w) kd9 hf
  have hc : ∀ e, (Instr.checkKey e 10000 9 (.string t)).run Try.prog w = .ok () w := fun e => run_checkKey kd9 (key_s t) e 9999
  unfold getA
  cases hl : look m t with
  | none =>
    rw [hl] at hk
    simp [Instr.lookup, run_underlying kd105, MapKept.run_getObj_map h1, hc, hk, Acc.zero, Result.andThen]
  | some x =>
    rw [hl] at hk
    simp [Instr.lookup, run_underlying kd105, MapKept.run_getObj_map h1, hc, hk, Result.andThen]
theorem Bk.look1 (h : Bk w q b m) (t : ByteArray) : (Instr.lookup 105 (.map (some b)) (.string t) false).run Try.prog w = .ok (getA m t).v w := by
  obtain ⟨es, clock, h1, h2⟩ := h.ent
  have hf := findNow_look t es.toList m 0 h2
  have hk := run_findKey (P := Try.prog) (w := w) kd9 hf
  have hc : ∀ e, (Instr.checkKey e 10000 9 (.string t)).run Try.prog w = .ok () w := fun e => run_checkKey kd9 (key_s t) e 9999
  unfold getA
  cases hl : look m t with
  | none =>
    rw [hl] at hk
    simp [Instr.lookup, run_underlying kd105, MapKept.run_getObj_map h1, hc, hk, Acc.zero, Result.andThen]
  | some x =>
    rw [hl] at hk
    simp [Instr.lookup, run_underlying kd105, MapKept.run_getObj_map h1, hc, hk, Result.andThen]
theorem gr_put {o : Obj} : Gr (fun k => k = b) w { w with heap := w.heap.setIfInBounds b o } :=
  ⟨rfl, rfl, rfl, by simp, fun k _ hk => by simp [Array.getElem?_setIfInBounds_ne (fun e => hk e.symm)]⟩
theorem Bk.putAt (h : Bk w q b m) {m' : Accs} {es : Array MapEntry} {clock : Nat} (he : Ent m' es.toList) : Bk { w with heap := w.heap.setIfInBounds b (.map es clock) } q b m' ∧ Gr (fun k => k = b) w { w with heap := w.heap.setIfInBounds b (.map es clock) } := by
  have hb := h.lt.2
  exact ⟨⟨gr_put.blk h.cell h.ne, es, clock, by simp [hb], he⟩, gr_put⟩
theorem Bk.update (h : Bk w q b m) (t : ByteArray) (a : Acc) : ∃ w', (Instr.mapUpdate 105 (.map (some b)) (.string t) a.v).run Try.prog w = .ok () w' ∧ Bk w' q b (put m t a) ∧ Gr (fun k => k = b) w w' := by
  obtain ⟨es, clock, h1, h2⟩ := h.ent
  have hf := findNow_look t es.toList m 0 h2
  have hk := run_findKey (P := Try.prog) (w := w) kd9 hf
  have hc : ∀ e, (Instr.checkKey e 10000 9 (.string t)).run Try.prog w = .ok () w := fun e => run_checkKey kd9 (key_s t) e 9999
  unfold put
  cases hl : look m t with
  | none =>
    rw [hl] at hk
    refine ⟨{ w with heap := w.heap.setIfInBounds b (.map (es.push { key := .string t, val := a.v, born := clock }) (clock + 1)) }, ?_, ?_⟩
    · simp [Instr.mapUpdate, run_underlying kd105, MapKept.run_getObj_map h1, hc, hk, run_setObj_map _ h1, Result.andThen]
    · refine h.putAt ?_
      unfold Ent at h2 ⊢
      simp [h2]
  | some x =>
    obtain ⟨i, a0⟩ := x
    rw [hl] at hk
    obtain ⟨e, he1, he2, he3⟩ := h2.at (look_at hl)
    have he1' : es[i]? = some e := by simpa using he1
    refine ⟨{ w with heap := w.heap.setIfInBounds b (.map (es.modify i fun e => { e with key := .string t, val := a.v }) clock) }, ?_, ?_⟩
    · simp [Instr.mapUpdate, run_underlying kd105, MapKept.run_getObj_map h1, hc, hk, he1', he2, run_keyThatStays (key_s t), run_setObj_map _ h1, Result.andThen]
    · refine h.putAt ?_
      have hlen := h2.len
      unfold Ent at h2 ⊢
      apply List.ext_getElem?
      intro j
      have h2j := congrArg (fun l => l[j]?) h2
      simp only [List.getElem?_map] at h2j
      simp only [List.getElem?_map, Array.toList_modify, List.getElem?_modify, List.getElem?_set]
      by_cases hj : i = j
      · subst hj
        have hil : i < m.length := (List.getElem?_eq_some_iff.1 (look_at hl)).1
        rw [he1]
        simp [hil]
      · simp only [hj, if_false]
        rw [← h2j]
        cases es.toList[j]? <;> simp
theorem Bk.delete (h : Bk w q b m) (t : ByteArray) : ∃ w', (Builtin.delete_ #[105, 9] 0 #[.map (some b), .string t]).run Try.prog w = .ok (.tuple #[]) w' ∧ Bk w' q b (del m t) ∧ Gr (fun k => k = b) w w' := by
  obtain ⟨es, clock, h1, h2⟩ := h.ent
  have hf := findNow_look t es.toList m 0 h2
  have hk := run_findKey (P := Try.prog) (w := w) kd9 hf
  have hc : ∀ e, (Instr.checkKey e 10000 9 (.string t)).run Try.prog w = .ok () w := fun e => run_checkKey kd9 (key_s t) e 9999
  unfold del
  cases hl : look m t with
  | none =>
    rw [hl] at hk
    refine ⟨{ w with heap := w.heap.setIfInBounds b (.map es clock) }, ?_, h.putAt h2⟩
    simp [Builtin.delete_, run_underlying kd105, MapKept.run_getObj_map h1, hc, hk, run_setObj_map _ h1, Result.andThen]
  | some x =>
    obtain ⟨i, a0⟩ := x
    rw [hl] at hk
    refine ⟨{ w with heap := w.heap.setIfInBounds b (.map (es.eraseIdxIfInBounds i) clock) }, ?_, h.putAt ?_⟩
    · simp [Builtin.delete_, run_underlying kd105, MapKept.run_getObj_map h1, hc, hk, run_setObj_map _ h1, Result.andThen]
    · have hil : i < m.length := (List.getElem?_eq_some_iff.1 (look_at hl)).1
      have hlen := h2.len
      unfold Ent at h2 ⊢
      have e : (es.eraseIdxIfInBounds i).toList = es.toList.eraseIdx i := by
        unfold Array.eraseIdxIfInBounds
        rw [dif_pos (by simp at hlen; omega), Array.toList_eraseIdx]
      rw [e, map_eraseIdx', h2, map_eraseIdx']
end
end Go.Proofs.Ythhcaaellhdkiaa
