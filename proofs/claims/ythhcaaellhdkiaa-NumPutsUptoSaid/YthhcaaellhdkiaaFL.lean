/- An owner of lists: what stays of his lists while one of them is written or grown. -/
import Derived.Test.YthhcaaellhdkiaaNX
namespace Go.Proofs.Ythhcaaellhdkiaa
open Go Go.RowKit Go.Proofs.Ythhcaaellhdkiaa.SX
set_option linter.unusedVariables false

theorem ty26 : Ty Try.prog 26 22 (.slice none 0 0) 24 := ⟨Try.underlying26, by kernel_rfl, rfl, by omega⟩
theorem svone (s : Sl) : s.v.oneCell' = true := rfl

structure Fl (B : Nat) (o : Addr) (l : Sl) (ls : List Sl) (q p : Nat) (tag : Nat → Nat) (w : World) (lr mr : Sl) (lss : List Sl) (ms : List Int) (cont : Nat → List Int) (rs : List (Sl × Int)) : Prop where
  co : w.cell? o = some lr.v
  cm : w.cell? (o.add 1) = some mr.v
  fo : w.frozen? o = false
  fm : w.frozen? (o.add 1) = false
  ob : B ≤ o.block ∧ tag o.block = 0
  ol : Own Sl.v 22 B w lr lss
  om : Own B8 5 B w mr ms
  oa : Own Sl.v 22 B w l ls
  oi : ∀ i (h : i < ls.length), q ≤ i → Own B8 5 B w ls[i] (cont i)
  tl : ∀ a, lr.a = some a → tag a.block = 1
  tm : ∀ a, mr.a = some a → tag a.block = 2
  ta : ∀ a, l.a = some a → tag a.block = 3
  ti : ∀ i (h : i < ls.length), q ≤ i → ∀ a, ls[i].a = some a → tag a.block = 4 + i
  rd : ∀ s m, (s, m) ∈ rs → Rd B8 w s (List.replicate s.n m) ∧ ∀ a, s.a = some a → 4 ≤ tag a.block ∧ tag a.block < 4 + p ∧ a.block < w.heap.size

theorem SX.Own.a_lt {α : Type} {enc : α → Value} {e : TypeId} {base : Nat} {w : World} {s : Sl} {xs : List α} (h : Own enc e base w s xs) (a : Addr) (ha : s.a = some a) : a.block < w.heap.size := (h.blk_ge _ (h.a_blk a ha)).2
theorem SX.Own.keepT {α : Type} {enc : α → Value} {e : TypeId} {base : Nat} {w w' : World} {s : Sl} {xs : List α} {row : Option Nat} {tag : Nat → Nat} {r t : Nat} (h : Own enc e base w s xs) (hg : w.grownBy w' row) (hr : ∀ b, row = some b → tag b = r) (ht : ∀ a, s.a = some a → tag a.block = t) (hne : t ≠ r) : Own enc e base w' s xs := by
  refine h.kept hg ?_
  cases hb : s.blk with
  | none => exact .inl rfl
  | some b =>
    right
    intro e
    have h1 := ht _ (h.blk_a b hb)
    have h2 := hr b e.symm
    exact hne (by rw [← h1, ← h2])

section
variable {B q p : Nat} {o : Addr} {l lr mr : Sl} {ls lss : List Sl} {tag : Nat → Nat} {w w' : World} {ms : List Int} {cont : Nat → List Int} {rs : List (Sl × Int)}

/-- Tags of new blocks. -/
def tagged (tag : Nat → Nat) (w : World) (r : Nat) : Nat → Nat := fun b => if b < w.heap.size then tag b else r
theorem tagged_old {tag : Nat → Nat} {w : World} {r b : Nat} (h : b < w.heap.size) : tagged tag w r b = tag b := if_pos h
theorem tagged_new {tag : Nat → Nat} {w : World} {r b : Nat} (h : w.heap.size ≤ b) : tagged tag w r b = r := if_neg (by omega)

theorem Fl.ob_lt (h : Fl B o l ls q p tag w lr mr lss ms cont rs) : o.block < w.heap.size := World.block_lt_of_cell? w _ h.co

/-- Tags may change where no block is yet. -/
theorem Fl.retag (h : Fl B o l ls q p tag w lr mr lss ms cont rs) (r : Nat) : Fl B o l ls q p (tagged tag w r) w lr mr lss ms cont rs := by
  refine { h with ob := ⟨h.ob.1, ?_⟩, tl := ?_, tm := ?_, ta := ?_, ti := ?_, rd := ?_ }
  · rw [tagged_old h.ob_lt]; exact h.ob.2
  · intro a ha; rw [tagged_old (h.ol.a_lt a ha)]; exact h.tl a ha
  · intro a ha; rw [tagged_old (h.om.a_lt a ha)]; exact h.tm a ha
  · intro a ha; rw [tagged_old (h.oa.a_lt a ha)]; exact h.ta a ha
  · intro i hi hq a ha; rw [tagged_old ((h.oi i hi hq).a_lt a ha)]; exact h.ti i hi hq a ha
  · intro s m hm
    refine ⟨(h.rd s m hm).1, fun a ha => ?_⟩
    have := (h.rd s m hm).2 a ha
    rw [tagged_old this.2.2]; exact this

theorem Fl.keepRd (h : Fl B o l ls q p tag w lr mr lss ms cont rs) {row : Option Nat} {r : Nat} (hg : w.grownBy w' row) (hr : ∀ b, row = some b → tag b = r) (hq : r < 4 ∨ 4 + p ≤ r) :
    ∀ s m, (s, m) ∈ rs → Rd B8 w' s (List.replicate s.n m) ∧ ∀ a, s.a = some a → 4 ≤ tag a.block ∧ tag a.block < 4 + p ∧ a.block < w'.heap.size := by
  intro s m hm
  obtain ⟨h1, h2⟩ := h.rd s m hm
  refine ⟨h1.keep hg fun a ha e => ?_, fun a ha => ?_⟩
  · have := h2 a ha
    have := hr _ e.symm
    omega
  · have := h2 a ha
    have := hg.size
    omega
theorem Fl.keepO (h : Fl B o l ls q p tag w lr mr lss ms cont rs) {row : Option Nat} {r : Nat} (hg : w.grownBy w' row) (hr : ∀ b, row = some b → tag b = r) (h0 : 0 ≠ r) :
    w'.cell? o = some lr.v ∧ w'.cell? (o.add 1) = some mr.v ∧ w'.frozen? o = false ∧ w'.frozen? (o.add 1) = false := by
  have hne : some o.block ≠ row := fun e => h0 (by rw [← hr _ e.symm]; exact h.ob.2.symm)
  have hne1 : some (o.add 1).block ≠ row := by rw [add_block]; exact hne
  refine ⟨keep_cell h.co hg hne, keep_cell h.cm hg hne1, ?_, ?_⟩
  · rw [World.grownBy.frozen_far hg o h.ob_lt hne]; exact h.fo
  · rw [World.grownBy.frozen_far hg (o.add 1) (by rw [add_block]; exact h.ob_lt) hne1]; exact h.fm

/-- nothing but new blocks -/
theorem Fl.keep (h : Fl B o l ls q p tag w lr mr lss ms cont rs) (hg : w.grownBy w' none) : Fl B o l ls q p tag w' lr mr lss ms cont rs := by
  have h0 := h.keepO (r := 1) hg (fun b hb => nomatch hb) (by omega)
  exact { co := h0.1, cm := h0.2.1, fo := h0.2.2.1, fm := h0.2.2.2, ob := h.ob, ol := h.ol.kept hg (by cases lr.blk <;> simp), om := h.om.kept hg (by cases mr.blk <;> simp), oa := h.oa.kept hg (by cases l.blk <;> simp),
          oi := fun i hi hq => (h.oi i hi hq).kept hg (by cases ls[i].blk <;> simp), tl := h.tl, tm := h.tm, ta := h.ta, ti := h.ti, rd := h.keepRd (r := 1) hg (fun b hb => nomatch hb) (by omega) }

/-- an item is written -/
theorem Fl.item (h : Fl B o l ls q p tag w lr mr lss ms cont rs) (i : Nat) (hi : i < ls.length) (hq : q ≤ i) (hp : p ≤ i) (k : Nat) (hk : k < (cont i).length) (y : Int) :
    ∃ a, ls[i].a = some a ∧ HasCell w (a.add k) ∧ Fl B o l ls q p tag (w.setCell (a.add k) (B8 y)) lr mr lss ms (fun j => if j = i then (cont i).set k y else cont j) rs ∧ w.grownBy (w.setCell (a.add k) (B8 y)) ls[i].blk := by
  obtain ⟨a, ha, hab, hc, ho, hg⟩ := (h.oi i hi hq).set k hk y
  have hr : ∀ b, ls[i].blk = some b → tag b = 4 + i := by
    intro b hb
    rw [hab] at hb; cases hb
    exact h.ti i hi hq a ha
  have h0 := h.keepO hg hr (by omega)
  refine ⟨a, ha, hc, { co := h0.1, cm := h0.2.1, fo := h0.2.2.1, fm := h0.2.2.2, ob := h.ob, ol := h.ol.keepT hg hr h.tl (by omega), om := h.om.keepT hg hr h.tm (by omega), oa := h.oa.keepT hg hr h.ta (by omega), oi := ?_, tl := h.tl, tm := h.tm, ta := h.ta, ti := h.ti, rd := h.keepRd hg hr (by omega) }, hg⟩
  intro j hj hqj
  by_cases hji : j = i
  · subst hji
    rw [if_pos rfl]; exact ho
  · rw [if_neg hji]
    exact (h.oi j hj hqj).keepT hg hr (h.ti j hj hqj) (by omega)

/-- the list of lists grows by one, and is stored -/
theorem Fl.pushL (h : Fl B o l ls q p tag w lr mr lss ms cont rs) (hB : B ≤ w.heap.size) (s : Sl) (hl : (lss.length + 1) * 24 ≤ 140737488355328) :
    ∃ lr2 w2 tag2, (Builtin.append_ #[26, 26] 26 #[.slice lr.a lr.n lr.c, .slice (some ⟨w.heap.size, 0, none⟩) 1 1]).run Try.prog (w.alloc (.cells #[s.v] 22)) = .ok (.slice lr2.a lr2.n lr2.c) w2 ∧ HasCell w2 o ∧
      (∀ b, b < w.heap.size → tag2 b = tag b) ∧ Fl B o l ls q p tag2 (w2.setCell o lr2.v) lr2 mr (lss ++ [s]) ms cont rs ∧ w.grownBy w2 lr.blk := by
  obtain ⟨lr2, w2, hrun, hap⟩ := ap_one (ty := 26) ty26 svone h.ol s hB hl
  have hr : ∀ b, lr.blk = some b → tagged tag w 1 b = 1 := by
    intro b hb
    have := h.tl _ (h.ol.blk_a b hb)
    rw [tagged_old (h.ol.blk_ge b hb).2]; exact this
  have g := h.retag 1
  have h0 := g.keepO hap.grown hr (by omega)
  have hg2 := grown_set w2 o lr2.v
  have tl2 : ∀ a, lr2.a = some a → tagged tag w 1 a.block = 1 := by
    intro a ha
    have hb := hap.own.a_blk a ha
    rcases hap.blk with h1 | ⟨b, h1, h2⟩
    · exact hr _ (by rw [← h1]; exact hb)
    · rw [hb] at h1; cases h1; exact tagged_new h2
  have hr2 : ∀ b, some o.block = some b → tagged tag w 1 b = 0 := by intro b hb; cases hb; exact g.ob.2
  refine ⟨lr2, w2, tagged tag w 1, hrun, ⟨⟨_, h0.1⟩, h0.2.2.1⟩, fun b hb => tagged_old hb, ?_, hap.grown⟩
  have m1 := g.om.keepT hap.grown hr g.tm (by omega)
  have a1 := g.oa.keepT hap.grown hr g.ta (by omega)
  have i1 : ∀ i (hi : i < ls.length), q ≤ i → Own B8 5 B w2 ls[i] (cont i) := fun i hi hq => (g.oi i hi hq).keepT hap.grown hr (g.ti i hi hq) (by omega)
  have r1 := g.keepRd hap.grown hr (by omega)
  refine { co := World.cell?_setCell_same _ _ _ h0.1, cm := ?_, fo := by rw [World.frozen?_setCell]; exact h0.2.2.1, fm := by rw [World.frozen?_setCell]; exact h0.2.2.2, ob := g.ob, ol := hap.own.keepT hg2 hr2 tl2 (by omega), om := m1.keepT hg2 hr2 g.tm (by omega), oa := a1.keepT hg2 hr2 g.ta (by omega),
           oi := fun i hi hq => (i1 i hi hq).keepT hg2 hr2 (g.ti i hi hq) (by omega), tl := tl2, tm := g.tm, ta := g.ta, ti := g.ti, rd := ?_ }
  · rw [World.cell?_setCell_other _ _ _ _ (by unfold Addr.add; simp; intro e; exact absurd (congrArg Addr.off e) (by simp))]; exact h0.2.1
  · intro s m hm
    obtain ⟨h1, h2⟩ := r1 s m hm
    refine ⟨h1.keep hg2 fun a ha e => ?_, fun a ha => ?_⟩
    · have := h2 a ha
      have := hr2 _ e.symm
      omega
    · have := h2 a ha
      have := hg2.size
      omega
/-- the list of marks grows by one, and is stored -/
theorem Fl.pushM (h : Fl B o l ls q p tag w lr mr lss ms cont rs) (hB : B ≤ w.heap.size) (m : Int) (hl : ms.length + 1 ≤ 140737488355328) :
    ∃ mr2 w2 tag2, (Builtin.append_ #[22, 22] 22 #[.slice mr.a mr.n mr.c, .slice (some ⟨w.heap.size, 0, none⟩) 1 1]).run Try.prog (w.alloc (.cells #[B8 m] 5)) = .ok (.slice mr2.a mr2.n mr2.c) w2 ∧ HasCell w2 (o.add 1) ∧
      (∀ b, b < w.heap.size → tag2 b = tag b) ∧ Fl B o l ls q p tag2 (w2.setCell (o.add 1) mr2.v) lr mr2 lss (ms ++ [m]) cont rs ∧ w.grownBy w2 mr.blk := by
  obtain ⟨mr2, w2, hrun, hap⟩ := ap_one (ty := 22) ty22 b8one h.om m hB (by omega)
  have hr : ∀ b, mr.blk = some b → tagged tag w 2 b = 2 := by
    intro b hb
    have := h.tm _ (h.om.blk_a b hb)
    rw [tagged_old (h.om.blk_ge b hb).2]; exact this
  have g := h.retag 2
  have h0 := g.keepO hap.grown hr (by omega)
  have hg2 := grown_set w2 (o.add 1) mr2.v
  rw [add_block] at hg2
  have tm2 : ∀ a, mr2.a = some a → tagged tag w 2 a.block = 2 := by
    intro a ha
    have hb := hap.own.a_blk a ha
    rcases hap.blk with h1 | ⟨b, h1, h2⟩
    · exact hr _ (by rw [← h1]; exact hb)
    · rw [hb] at h1; cases h1; exact tagged_new h2
  have hr2 : ∀ b, some o.block = some b → tagged tag w 2 b = 0 := by intro b hb; cases hb; exact g.ob.2
  refine ⟨mr2, w2, tagged tag w 2, hrun, ⟨⟨_, h0.2.1⟩, h0.2.2.2⟩, fun b hb => tagged_old hb, ?_, hap.grown⟩
  have l1 := g.ol.keepT hap.grown hr g.tl (by omega)
  have a1 := g.oa.keepT hap.grown hr g.ta (by omega)
  have i1 : ∀ i (hi : i < ls.length), q ≤ i → Own B8 5 B w2 ls[i] (cont i) := fun i hi hq => (g.oi i hi hq).keepT hap.grown hr (g.ti i hi hq) (by omega)
  have r1 := g.keepRd hap.grown hr (by omega)
  refine { co := ?_, cm := World.cell?_setCell_same _ _ _ h0.2.1, fo := by rw [World.frozen?_setCell]; exact h0.2.2.1, fm := by rw [World.frozen?_setCell]; exact h0.2.2.2, ob := g.ob, ol := l1.keepT hg2 hr2 g.tl (by omega), om := hap.own.keepT hg2 hr2 tm2 (by omega), oa := a1.keepT hg2 hr2 g.ta (by omega),
           oi := fun i hi hq => (i1 i hi hq).keepT hg2 hr2 (g.ti i hi hq) (by omega), tl := g.tl, tm := tm2, ta := g.ta, ti := g.ti, rd := ?_ }
  · rw [World.cell?_setCell_other _ _ _ _ (by unfold Addr.add; simp; intro e; exact absurd (congrArg Addr.off e) (by simp))]; exact h0.1
  · intro s m hm
    obtain ⟨h1, h2⟩ := r1 s m hm
    refine ⟨h1.keep hg2 fun a ha e => ?_, fun a ha => ?_⟩
    · have := h2 a ha
      have := hr2 _ e.symm
      omega
    · have := h2 a ha
      have := hg2.size
      omega

/-- what a grown slice's elder still reads -/
structure Eld (w : World) (tag : Nat → Nat) (q : Nat) (s : Sl) (xs : List Int) (g : Sl) (gs : List Int) : Prop where
  rd : Rd B8 w s xs
  rel : ∀ a, s.a = some a → (g.a = some a ∧ ∃ t, gs = xs ++ t) ∨ some a.block ≠ g.blk
  tg : ∀ a, s.a = some a → tag a.block = 4 + q ∧ a.block < w.heap.size

theorem Fl.start (h : Fl B o l ls q q tag w lr mr lss ms cont rs) (hq : q < ls.length) : Fl B o l ls (q + 1) q tag w lr mr lss ms cont rs ∧ Own B8 5 B w ls[q] (cont q) ∧ (∀ a, ls[q].a = some a → tag a.block = 4 + q) ∧ Eld w tag q ls[q] (cont q) ls[q] (cont q) := by
  have ho := h.oi q hq (Nat.le_refl _)
  have ht := h.ti q hq (Nat.le_refl _)
  exact ⟨{ h with oi := fun i hi hqi => h.oi i hi (by omega), ti := fun i hi hqi => h.ti i hi (by omega) }, ho, ht, ⟨ho.rd, fun a ha => .inl ⟨ha, [], by simp⟩, fun a ha => ⟨ht a ha, ho.a_lt a ha⟩⟩⟩

theorem Fl.grow (h : Fl B o l ls (q + 1) q tag w lr mr lss ms cont rs) (hB : B ≤ w.heap.size) {g s : Sl} {gs xs : List Int} (hg : Own B8 5 B w g gs) (tg : ∀ a, g.a = some a → tag a.block = 4 + q) (he : Eld w tag q s xs g gs) (y : Int) (hl : gs.length + 1 ≤ 140737488355328) :
    ∃ g2 w2 tag2, (Builtin.append_ #[22, 22] 22 #[.slice g.a g.n g.c, .slice (some ⟨w.heap.size, 0, none⟩) 1 1]).run Try.prog (w.alloc (.cells #[B8 y] 5)) = .ok (.slice g2.a g2.n g2.c) w2 ∧
      Fl B o l ls (q + 1) q tag2 w2 lr mr lss ms cont rs ∧ Own B8 5 B w2 g2 (gs ++ [y]) ∧ (∀ a, g2.a = some a → tag2 a.block = 4 + q) ∧ Eld w2 tag2 q s xs g2 (gs ++ [y]) ∧ w.grownBy w2 g.blk := by
  obtain ⟨g2, w2, hrun, hap, hold⟩ := ap_one_old (ty := 22) ty22 b8one hg y hB (by omega)
  have hr : ∀ b, g.blk = some b → tagged tag w (4 + q) b = 4 + q := by
    intro b hb
    have := tg _ (hg.blk_a b hb)
    rw [tagged_old (hg.blk_ge b hb).2]; exact this
  have f := h.retag (4 + q)
  have h0 := f.keepO hap.grown hr (by omega)
  have hsz := hap.grown.size
  refine ⟨g2, w2, tagged tag w (4 + q), hrun, ?_, hap.own, ?_, ⟨?_, ?_, ?_⟩, hap.grown⟩
  · exact { co := h0.1, cm := h0.2.1, fo := h0.2.2.1, fm := h0.2.2.2, ob := f.ob, ol := f.ol.keepT hap.grown hr f.tl (by omega), om := f.om.keepT hap.grown hr f.tm (by omega), oa := f.oa.keepT hap.grown hr f.ta (by omega), oi := fun i hi hq => (f.oi i hi hq).keepT hap.grown hr (f.ti i hi hq) (by omega), tl := f.tl, tm := f.tm, ta := f.ta, ti := f.ti, rd := f.keepRd hap.grown hr (by omega) }
  · intro a ha
    have hb := hap.own.a_blk a ha
    rcases hap.blk with h1 | ⟨b, h1, h2⟩
    · exact hr _ (by rw [← h1]; exact hb)
    · rw [hb] at h1; cases h1; exact tagged_new h2
  · refine ⟨he.rd.1, he.rd.2.1, he.rd.2.2.1, fun hn => ?_⟩
    obtain ⟨a, ha, hc⟩ := he.rd.2.2.2 hn
    refine ⟨a, ha, fun j hj => ?_⟩
    rcases he.rel a ha with ⟨h1, t, h2⟩ | hne
    · obtain ⟨a', ha', hc'⟩ := hold.2.2.2 (by have := hold.1; rw [h2] at this; simp at this; omega)
      rw [h1] at ha'; cases ha'
      have := hc' j (by rw [h2]; simp; omega)
      rw [this]
      exact congrArg (fun v => some (B8 v)) ((List.getElem_of_eq h2 _).trans (List.getElem_append_left hj))
    · exact keep_cell (hc j hj) hap.grown (by rw [add_block]; exact hne)
  · intro a ha
    have hlt := (he.tg a ha).2
    rcases hap.blk with h1 | ⟨b, h1, h2⟩
    · rcases he.rel a ha with ⟨h3, t, h4⟩ | hne
      · left
        have hb := hg.a_blk a h3
        have e1 := hg.blk_a _ hb
        rw [h3] at e1
        have e2 := hap.own.blk_a a.block (by rw [h1]; exact hb)
        refine ⟨by rw [e2]; exact e1.symm, t ++ [y], by rw [h4, List.append_assoc]⟩
      · right; rw [h1]; exact hne
    · right; rw [h1]; intro e; cases e; omega
  · intro a ha
    have := he.tg a ha
    exact ⟨by rw [tagged_old this.2]; exact this.1, by omega⟩

theorem Fl.done (h : Fl B o l ls (q + 1) q tag w lr mr lss ms cont rs) {g s : Sl} {m : Int} (hg : Own B8 5 B w g (List.replicate g.n m)) (tg : ∀ a, g.a = some a → tag a.block = 4 + q) {gs : List Int} (he : Eld w tag q s (List.replicate s.n m) g gs) :
    Fl B o l ls (q + 1) (q + 1) tag w lr mr lss ms cont (rs ++ [(s, m), (g, m)]) := by
  refine { h with rd := ?_ }
  intro s' m' hm
  simp only [List.mem_append, List.mem_cons, Prod.mk.injEq, List.not_mem_nil, or_false] at hm
  rcases hm with hm | ⟨rfl, rfl⟩ | ⟨rfl, rfl⟩
  · obtain ⟨h1, h2⟩ := h.rd s' m' hm
    exact ⟨h1, fun a ha => by have := h2 a ha; omega⟩
  · exact ⟨he.rd, fun a ha => by have := he.tg a ha; omega⟩
  · exact ⟨hg.rd, fun a ha => by have := tg a ha; have := hg.a_lt a ha; omega⟩
end
end Go.Proofs.Ythhcaaellhdkiaa
