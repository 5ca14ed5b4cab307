/- An owner of lists who lies among what must stay. -/
import Derived.Test.YthhcaaellhdkiaaFM
namespace Go.Proofs.Ythhcaaellhdkiaa
open Go Go.RowKit Go.Proofs.Ythhcaaellhdkiaa.SX
set_option linter.unusedVariables false

/-- All blocks below B, but one, are as they were. -/
structure Bo (c B : Nat) (w w' : World) : Prop where
  os : w'.os = w.os
  tape : w'.tape = w.tape
  output : w'.output = w.output
  size : w.heap.size ≤ w'.heap.size
  block : ∀ k, k < B → k ≠ c → w'.heap[k]? = w.heap[k]?
theorem Bo.of {c B : Nat} {w w' : World} (h : Below B w w') : Bo c B w w' := ⟨h.os, h.tape, h.output, h.size, fun k hk _ => h.block k hk⟩
theorem Bo.down {c B D : Nat} {w w' : World} (h : Bo c B w w') (h1 : D ≤ B) (h2 : D ≤ c) : Below D w w' := ⟨h.os, h.tape, h.output, h.size, fun k hk => h.block k (by omega) (by omega)⟩
theorem Bo.trans {c B : Nat} {a b d : World} (h : Bo c B a b) (k : Bo c B b d) : Bo c B a d := ⟨k.os.trans h.os, k.tape.trans h.tape, k.output.trans h.output, Nat.le_trans h.size k.size, fun i hi hc => (k.block i hi hc).trans (h.block i hi hc)⟩
theorem Bo.grown {c B : Nat} {a w w' : World} {row : Option Nat} (h : Bo c B a w) (hg : w.grownBy w' row) (hB : B ≤ w.heap.size) (hr : ∀ k, row = some k → B ≤ k ∨ k = c) : Bo c B a w' :=
  ⟨hg.os.trans h.os, hg.tape.trans h.tape, hg.output.trans h.output, Nat.le_trans h.size hg.size, fun k hk hc => (hg.block k (by omega) (fun e => by have := hr k e.symm; omega)).trans (h.block k hk hc)⟩
theorem Bo.drew {c B : Nat} {a w : World} (h : Bo c B a w) : Bo c B a w.drew := ⟨h.os, h.tape, h.output, h.size, h.block⟩
theorem Bo.cell {c B : Nat} {w w' : World} (h : Bo c B w w') {p : Addr} (h1 : p.block < B) (h2 : p.block ≠ c) : w'.cell? p = w.cell? p := World.cell?_of_block (w := w) (h.block p.block h1 h2)
theorem Bo.set {c B : Nat} {a w : World} (h : Bo c B a w) {p : Addr} (hp : p.block = c) (hB : B ≤ w.heap.size) (u : Value) : Bo c B a (w.setCell p u) :=
  h.grown (grown_set w p u) hB (fun k hk => .inr (by cases hk; exact hp))
theorem Bo.rd {c B : Nat} {w w' : World} (h : Bo c B w w') {s : Sl} {xs : List Int} (hr : Rd B8 w s xs) (hc : ∀ a, s.a = some a → a.block < B ∧ a.block ≠ c) : Rd B8 w' s xs :=
  hr.of_cells fun p v hp ⟨a, ha, hb⟩ => by
    have := hc a ha
    rw [h.cell (by omega) (by omega)]; exact hp

structure Fo (B : Nat) (o : Addr) (l : Sl) (ls : List Sl) (q p : Nat) (tag : Nat → Nat) (w : World) (lr mr : Sl) (lss : List Sl) (ms : List Int) (cont : Nat → List Int) (rs : List (Sl × Int)) : Prop where
  co : w.cell? o = some lr.v
  cm : w.cell? (o.add 1) = some mr.v
  fo : w.frozen? o = false
  fm : w.frozen? (o.add 1) = false
  ob : tag o.block = 0
  ol : Own Sl.v 22 B w lr lss
  om : Own B8 5 B w mr ms
  oa : Own Sl.v 22 B w l ls
  oi : ∀ i (h : i < ls.length), q ≤ i → Own B8 5 B w ls[i] (cont i)
  tl : ∀ a, lr.a = some a → tag a.block = 1
  tm : ∀ a, mr.a = some a → tag a.block = 2
  ta : ∀ a, l.a = some a → tag a.block = 3
  ti : ∀ i (h : i < ls.length), q ≤ i → ∀ a, ls[i].a = some a → tag a.block = 4 + i
  rd : ∀ s m, (s, m) ∈ rs → Rd B8 w s (List.replicate s.n m) ∧ ∀ a, s.a = some a → 4 ≤ tag a.block ∧ tag a.block < 4 + p ∧ a.block < w.heap.size

section
variable {B q p : Nat} {o : Addr} {l lr mr : Sl} {ls lss : List Sl} {tag : Nat → Nat} {w w' : World} {ms : List Int} {cont : Nat → List Int} {rs : List (Sl × Int)}

theorem Fo.ob_lt (h : Fo B o l ls q p tag w lr mr lss ms cont rs) : o.block < w.heap.size := World.block_lt_of_cell? w _ h.co

/-- Tags may change where no block is yet. -/
theorem Fo.retag (h : Fo B o l ls q p tag w lr mr lss ms cont rs) (r : Nat) : Fo B o l ls q p (tagged tag w r) w lr mr lss ms cont rs := by
  refine { h with ob := ?_, tl := ?_, tm := ?_, ta := ?_, ti := ?_, rd := ?_ }
  · rw [tagged_old h.ob_lt]; exact h.ob
  · intro a ha; rw [tagged_old (h.ol.a_lt a ha)]; exact h.tl a ha
  · intro a ha; rw [tagged_old (h.om.a_lt a ha)]; exact h.tm a ha
  · intro a ha; rw [tagged_old (h.oa.a_lt a ha)]; exact h.ta a ha
  · intro i hi hq a ha; rw [tagged_old ((h.oi i hi hq).a_lt a ha)]; exact h.ti i hi hq a ha
  · intro s m hm
    refine ⟨(h.rd s m hm).1, fun a ha => ?_⟩
    have := (h.rd s m hm).2 a ha
    rw [tagged_old this.2.2]; exact this

theorem Fo.keepRd (h : Fo B o l ls q p tag w lr mr lss ms cont rs) {row : Option Nat} {r : Nat} (hg : w.grownBy w' row) (hr : ∀ b, row = some b → tag b = r) (hq : r < 4 ∨ 4 + p ≤ r) :
    ∀ s m, (s, m) ∈ rs → Rd B8 w' s (List.replicate s.n m) ∧ ∀ a, s.a = some a → 4 ≤ tag a.block ∧ tag a.block < 4 + p ∧ a.block < w'.heap.size := by
  intro s m hm
  obtain ⟨h1, h2⟩ := h.rd s m hm
  refine ⟨h1.keep hg fun a ha e => ?_, fun a ha => ?_⟩
  · have := h2 a ha
    have := hr _ e.symm
    omega
  · have := h2 a ha
    have := hg.size
    omega
theorem Fo.keepO (h : Fo B o l ls q p tag w lr mr lss ms cont rs) {row : Option Nat} {r : Nat} (hg : w.grownBy w' row) (hr : ∀ b, row = some b → tag b = r) (h0 : 0 ≠ r) :
    w'.cell? o = some lr.v ∧ w'.cell? (o.add 1) = some mr.v ∧ w'.frozen? o = false ∧ w'.frozen? (o.add 1) = false := by
  have hne : some o.block ≠ row := fun e => h0 (by rw [← hr _ e.symm]; exact h.ob.symm)
  have hne1 : some (o.add 1).block ≠ row := by rw [add_block]; exact hne
  refine ⟨keep_cell h.co hg hne, keep_cell h.cm hg hne1, ?_, ?_⟩
  · rw [World.grownBy.frozen_far hg o h.ob_lt hne]; exact h.fo
  · rw [World.grownBy.frozen_far hg (o.add 1) (by rw [add_block]; exact h.ob_lt) hne1]; exact h.fm

/-- nothing but new blocks -/
theorem Fo.keep (h : Fo B o l ls q p tag w lr mr lss ms cont rs) (hg : w.grownBy w' none) : Fo B o l ls q p tag w' lr mr lss ms cont rs := by
  have h0 := h.keepO (r := 1) hg (fun b hb => nomatch hb) (by omega)
  exact { co := h0.1, cm := h0.2.1, fo := h0.2.2.1, fm := h0.2.2.2, ob := h.ob, ol := h.ol.kept hg (by cases lr.blk <;> simp), om := h.om.kept hg (by cases mr.blk <;> simp), oa := h.oa.kept hg (by cases l.blk <;> simp),
          oi := fun i hi hq => (h.oi i hi hq).kept hg (by cases ls[i].blk <;> simp), tl := h.tl, tm := h.tm, ta := h.ta, ti := h.ti, rd := h.keepRd (r := 1) hg (fun b hb => nomatch hb) (by omega) }

/-- an item is written -/
theorem Fo.item (h : Fo B o l ls q p tag w lr mr lss ms cont rs) (i : Nat) (hi : i < ls.length) (hq : q ≤ i) (hp : p ≤ i) (k : Nat) (hk : k < (cont i).length) (y : Int) :
    ∃ a, ls[i].a = some a ∧ HasCell w (a.add k) ∧ Fo B o l ls q p tag (w.setCell (a.add k) (B8 y)) lr mr lss ms (fun j => if j = i then (cont i).set k y else cont j) rs ∧ w.grownBy (w.setCell (a.add k) (B8 y)) ls[i].blk := by
  obtain ⟨a, ha, hab, hc, ho, hg⟩ := (h.oi i hi hq).set k hk y
  have hr : ∀ b, ls[i].blk = some b → tag b = 4 + i := by
    intro b hb
    rw [hab] at hb; cases hb
    exact h.ti i hi hq a ha
  have h0 := h.keepO hg hr (by omega)
  refine ⟨a, ha, hc, { co := h0.1, cm := h0.2.1, fo := h0.2.2.1, fm := h0.2.2.2, ob := h.ob, ol := h.ol.keepT hg hr h.tl (by omega), om := h.om.keepT hg hr h.tm (by omega), oa := h.oa.keepT hg hr h.ta (by omega), oi := ?_, tl := h.tl, tm := h.tm, ta := h.ta, ti := h.ti, rd := h.keepRd hg hr (by omega) }, hg⟩
  intro j hj hqj
  by_cases hji : j = i
  · subst hji
    rw [if_pos rfl]; exact ho
  · rw [if_neg hji]
    exact (h.oi j hj hqj).keepT hg hr (h.ti j hj hqj) (by omega)

/-- the list of lists grows by one, and is stored -/
theorem Fo.pushL (h : Fo B o l ls q p tag w lr mr lss ms cont rs) (hB : B ≤ w.heap.size) (s : Sl) (hl : (lss.length + 1) * 24 ≤ 140737488355328) :
    ∃ lr2 w2 tag2, (Builtin.append_ #[26, 26] 26 #[.slice lr.a lr.n lr.c, .slice (some ⟨w.heap.size, 0, none⟩) 1 1]).run Try.prog (w.alloc (.cells #[s.v] 22)) = .ok (.slice lr2.a lr2.n lr2.c) w2 ∧ HasCell w2 o ∧
      (∀ b, b < w.heap.size → tag2 b = tag b) ∧ Fo B o l ls q p tag2 (w2.setCell o lr2.v) lr2 mr (lss ++ [s]) ms cont rs ∧ w.grownBy w2 lr.blk := by
  obtain ⟨lr2, w2, hrun, hap⟩ := ap_one (ty := 26) ty26 svone h.ol s hB hl
  have hr : ∀ b, lr.blk = some b → tagged tag w 1 b = 1 := by
    intro b hb
    have := h.tl _ (h.ol.blk_a b hb)
    rw [tagged_old (h.ol.blk_ge b hb).2]; exact this
  have g := h.retag 1
  have h0 := g.keepO hap.grown hr (by omega)
  have hg2 := grown_set w2 o lr2.v
  have tl2 : ∀ a, lr2.a = some a → tagged tag w 1 a.block = 1 := by
    intro a ha
    have hb := hap.own.a_blk a ha
    rcases hap.blk with h1 | ⟨b, h1, h2⟩
    · exact hr _ (by rw [← h1]; exact hb)
    · rw [hb] at h1; cases h1; exact tagged_new h2
  have hr2 : ∀ b, some o.block = some b → tagged tag w 1 b = 0 := by intro b hb; cases hb; exact g.ob
  refine ⟨lr2, w2, tagged tag w 1, hrun, ⟨⟨_, h0.1⟩, h0.2.2.1⟩, fun b hb => tagged_old hb, ?_, hap.grown⟩
  have m1 := g.om.keepT hap.grown hr g.tm (by omega)
  have a1 := g.oa.keepT hap.grown hr g.ta (by omega)
  have i1 : ∀ i (hi : i < ls.length), q ≤ i → Own B8 5 B w2 ls[i] (cont i) := fun i hi hq => (g.oi i hi hq).keepT hap.grown hr (g.ti i hi hq) (by omega)
  have r1 := g.keepRd hap.grown hr (by omega)
  refine { co := World.cell?_setCell_same _ _ _ h0.1, cm := ?_, fo := by rw [World.frozen?_setCell]; exact h0.2.2.1, fm := by rw [World.frozen?_setCell]; exact h0.2.2.2, ob := g.ob, ol := hap.own.keepT hg2 hr2 tl2 (by omega), om := m1.keepT hg2 hr2 g.tm (by omega), oa := a1.keepT hg2 hr2 g.ta (by omega),
           oi := fun i hi hq => (i1 i hi hq).keepT hg2 hr2 (g.ti i hi hq) (by omega), tl := tl2, tm := g.tm, ta := g.ta, ti := g.ti, rd := ?_ }
  · rw [World.cell?_setCell_other _ _ _ _ (by unfold Addr.add; simp; intro e; exact absurd (congrArg Addr.off e) (by simp))]; exact h0.2.1
  · intro s m hm
    obtain ⟨h1, h2⟩ := r1 s m hm
    refine ⟨h1.keep hg2 fun a ha e => ?_, fun a ha => ?_⟩
    · have := h2 a ha
      have := hr2 _ e.symm
      omega
    · have := h2 a ha
      have := hg2.size
      omega
/-- the list of marks grows by one, and is stored -/
theorem Fo.pushM (h : Fo B o l ls q p tag w lr mr lss ms cont rs) (hB : B ≤ w.heap.size) (m : Int) (hl : ms.length + 1 ≤ 140737488355328) :
    ∃ mr2 w2 tag2, (Builtin.append_ #[22, 22] 22 #[.slice mr.a mr.n mr.c, .slice (some ⟨w.heap.size, 0, none⟩) 1 1]).run Try.prog (w.alloc (.cells #[B8 m] 5)) = .ok (.slice mr2.a mr2.n mr2.c) w2 ∧ HasCell w2 (o.add 1) ∧
      (∀ b, b < w.heap.size → tag2 b = tag b) ∧ Fo B o l ls q p tag2 (w2.setCell (o.add 1) mr2.v) lr mr2 lss (ms ++ [m]) cont rs ∧ w.grownBy w2 mr.blk := by
  obtain ⟨mr2, w2, hrun, hap⟩ := ap_one (ty := 22) ty22 b8one h.om m hB (by omega)
  have hr : ∀ b, mr.blk = some b → tagged tag w 2 b = 2 := by
    intro b hb
    have := h.tm _ (h.om.blk_a b hb)
    rw [tagged_old (h.om.blk_ge b hb).2]; exact this
  have g := h.retag 2
  have h0 := g.keepO hap.grown hr (by omega)
  have hg2 := grown_set w2 (o.add 1) mr2.v
  rw [add_block] at hg2
  have tm2 : ∀ a, mr2.a = some a → tagged tag w 2 a.block = 2 := by
    intro a ha
    have hb := hap.own.a_blk a ha
    rcases hap.blk with h1 | ⟨b, h1, h2⟩
    · exact hr _ (by rw [← h1]; exact hb)
    · rw [hb] at h1; cases h1; exact tagged_new h2
  have hr2 : ∀ b, some o.block = some b → tagged tag w 2 b = 0 := by intro b hb; cases hb; exact g.ob
  refine ⟨mr2, w2, tagged tag w 2, hrun, ⟨⟨_, h0.2.1⟩, h0.2.2.2⟩, fun b hb => tagged_old hb, ?_, hap.grown⟩
  have l1 := g.ol.keepT hap.grown hr g.tl (by omega)
  have a1 := g.oa.keepT hap.grown hr g.ta (by omega)
  have i1 : ∀ i (hi : i < ls.length), q ≤ i → Own B8 5 B w2 ls[i] (cont i) := fun i hi hq => (g.oi i hi hq).keepT hap.grown hr (g.ti i hi hq) (by omega)
  have r1 := g.keepRd hap.grown hr (by omega)
  refine { co := ?_, cm := World.cell?_setCell_same _ _ _ h0.2.1, fo := by rw [World.frozen?_setCell]; exact h0.2.2.1, fm := by rw [World.frozen?_setCell]; exact h0.2.2.2, ob := g.ob, ol := l1.keepT hg2 hr2 g.tl (by omega), om := hap.own.keepT hg2 hr2 tm2 (by omega), oa := a1.keepT hg2 hr2 g.ta (by omega),
           oi := fun i hi hq => (i1 i hi hq).keepT hg2 hr2 (g.ti i hi hq) (by omega), tl := g.tl, tm := tm2, ta := g.ta, ti := g.ti, rd := ?_ }
  · rw [World.cell?_setCell_other _ _ _ _ (by unfold Addr.add; simp; intro e; exact absurd (congrArg Addr.off e) (by simp))]; exact h0.1
  · intro s m hm
    obtain ⟨h1, h2⟩ := r1 s m hm
    refine ⟨h1.keep hg2 fun a ha e => ?_, fun a ha => ?_⟩
    · have := h2 a ha
      have := hr2 _ e.symm
      omega
    · have := h2 a ha
      have := hg2.size
      omega

theorem Fo.start (h : Fo B o l ls q q tag w lr mr lss ms cont rs) (hq : q < ls.length) : Fo B o l ls (q + 1) q tag w lr mr lss ms cont rs ∧ Own B8 5 B w ls[q] (cont q) ∧ (∀ a, ls[q].a = some a → tag a.block = 4 + q) ∧ Eld w tag q ls[q] (cont q) ls[q] (cont q) := by
  have ho := h.oi q hq (Nat.le_refl _)
  have ht := h.ti q hq (Nat.le_refl _)
  exact ⟨{ h with oi := fun i hi hqi => h.oi i hi (by omega), ti := fun i hi hqi => h.ti i hi (by omega) }, ho, ht, ⟨ho.rd, fun a ha => .inl ⟨ha, [], by simp⟩, fun a ha => ⟨ht a ha, ho.a_lt a ha⟩⟩⟩

theorem Fo.grow (h : Fo B o l ls (q + 1) q tag w lr mr lss ms cont rs) (hB : B ≤ w.heap.size) {g s : Sl} {gs xs : List Int} (hg : Own B8 5 B w g gs) (tg : ∀ a, g.a = some a → tag a.block = 4 + q) (he : Eld w tag q s xs g gs) (y : Int) (hl : gs.length + 1 ≤ 140737488355328) :
    ∃ g2 w2 tag2, (Builtin.append_ #[22, 22] 22 #[.slice g.a g.n g.c, .slice (some ⟨w.heap.size, 0, none⟩) 1 1]).run Try.prog (w.alloc (.cells #[B8 y] 5)) = .ok (.slice g2.a g2.n g2.c) w2 ∧
      Fo B o l ls (q + 1) q tag2 w2 lr mr lss ms cont rs ∧ Own B8 5 B w2 g2 (gs ++ [y]) ∧ (∀ a, g2.a = some a → tag2 a.block = 4 + q) ∧ Eld w2 tag2 q s xs g2 (gs ++ [y]) ∧ w.grownBy w2 g.blk := by
  obtain ⟨g2, w2, hrun, hap, hold⟩ := ap_one_old (ty := 22) ty22 b8one hg y hB (by omega)
  have hr : ∀ b, g.blk = some b → tagged tag w (4 + q) b = 4 + q := by
    intro b hb
    have := tg _ (hg.blk_a b hb)
    rw [tagged_old (hg.blk_ge b hb).2]; exact this
  have f := h.retag (4 + q)
  have h0 := f.keepO hap.grown hr (by omega)
  have hsz := hap.grown.size
  refine ⟨g2, w2, tagged tag w (4 + q), hrun, ?_, hap.own, ?_, ⟨?_, ?_, ?_⟩, hap.grown⟩
  · exact { co := h0.1, cm := h0.2.1, fo := h0.2.2.1, fm := h0.2.2.2, ob := f.ob, ol := f.ol.keepT hap.grown hr f.tl (by omega), om := f.om.keepT hap.grown hr f.tm (by omega), oa := f.oa.keepT hap.grown hr f.ta (by omega), oi := fun i hi hq => (f.oi i hi hq).keepT hap.grown hr (f.ti i hi hq) (by omega), tl := f.tl, tm := f.tm, ta := f.ta, ti := f.ti, rd := f.keepRd hap.grown hr (by omega) }
  · intro a ha
    have hb := hap.own.a_blk a ha
    rcases hap.blk with h1 | ⟨b, h1, h2⟩
    · exact hr _ (by rw [← h1]; exact hb)
    · rw [hb] at h1; cases h1; exact tagged_new h2
  · refine ⟨he.rd.1, he.rd.2.1, he.rd.2.2.1, fun hn => ?_⟩
    obtain ⟨a, ha, hc⟩ := he.rd.2.2.2 hn
    refine ⟨a, ha, fun j hj => ?_⟩
    rcases he.rel a ha with ⟨h1, t, h2⟩ | hne
    · obtain ⟨a', ha', hc'⟩ := hold.2.2.2 (by have := hold.1; rw [h2] at this; simp at this; omega)
      rw [h1] at ha'; cases ha'
      have := hc' j (by rw [h2]; simp; omega)
      rw [this]
      exact congrArg (fun v => some (B8 v)) ((List.getElem_of_eq h2 _).trans (List.getElem_append_left hj))
    · exact keep_cell (hc j hj) hap.grown (by rw [add_block]; exact hne)
  · intro a ha
    have hlt := (he.tg a ha).2
    rcases hap.blk with h1 | ⟨b, h1, h2⟩
    · rcases he.rel a ha with ⟨h3, t, h4⟩ | hne
      · left
        have hb := hg.a_blk a h3
        have e1 := hg.blk_a _ hb
        rw [h3] at e1
        have e2 := hap.own.blk_a a.block (by rw [h1]; exact hb)
        refine ⟨by rw [e2]; exact e1.symm, t ++ [y], by rw [h4, List.append_assoc]⟩
      · right; rw [h1]; exact hne
    · right; rw [h1]; intro e; cases e; omega
  · intro a ha
    have := he.tg a ha
    exact ⟨by rw [tagged_old this.2]; exact this.1, by omega⟩

theorem Fo.done (h : Fo B o l ls (q + 1) q tag w lr mr lss ms cont rs) {g s : Sl} {m : Int} (hg : Own B8 5 B w g (List.replicate g.n m)) (tg : ∀ a, g.a = some a → tag a.block = 4 + q) {gs : List Int} (he : Eld w tag q s (List.replicate s.n m) g gs) :
    Fo B o l ls (q + 1) (q + 1) tag w lr mr lss ms cont (rs ++ [(s, m), (g, m)]) := by
  refine { h with rd := ?_ }
  intro s' m' hm
  simp only [List.mem_append, List.mem_cons, Prod.mk.injEq, List.not_mem_nil, or_false] at hm
  rcases hm with hm | ⟨rfl, rfl⟩ | ⟨rfl, rfl⟩
  · obtain ⟨h1, h2⟩ := h.rd s' m' hm
    exact ⟨h1, fun a ha => by have := h2 a ha; omega⟩
  · exact ⟨he.rd, fun a ha => by have := he.tg a ha; omega⟩
  · exact ⟨hg.rd, fun a ha => by have := tg a ha; have := hg.a_lt a ha; omega⟩
end

theorem rd_litS (w : World) (xs : List Sl) (hm : xs.length ≤ maxLen) : Rd Sl.v (w.alloc (.cells (xs.map Sl.v).toArray 22)) ⟨some ⟨w.heap.size, 0, none⟩, xs.length, xs.length⟩ xs := by
  refine ⟨rfl, Nat.le_refl _, hm, fun _ => ⟨_, rfl, fun j hj => ?_⟩⟩
  have := cell_of_row (w.alloc (.cells (xs.map Sl.v).toArray 22)) w.heap.size j (xs.map Sl.v).toArray 22 (0, 0) (heap_alloc_new w _)
  rw [add_lit, this]
  simp [hj]

theorem Fo.retags {B q p : Nat} {o : Addr} {l lr mr : Sl} {ls lss : List Sl} {tag tag' : Nat → Nat} {w : World} {ms : List Int} {cont : Nat → List Int} {rs : List (Sl × Int)}
    (h : Fo B o l ls q p tag w lr mr lss ms cont rs) (he : ∀ b, b < w.heap.size → tag' b = tag b) : Fo B o l ls q p tag' w lr mr lss ms cont rs := by
  refine { h with ob := ?_, tl := ?_, tm := ?_, ta := ?_, ti := ?_, rd := ?_ }
  · rw [he _ h.ob_lt]; exact h.ob
  · intro a ha; rw [he _ (h.ol.a_lt a ha)]; exact h.tl a ha
  · intro a ha; rw [he _ (h.om.a_lt a ha)]; exact h.tm a ha
  · intro a ha; rw [he _ (h.oa.a_lt a ha)]; exact h.ta a ha
  · intro i hi hq a ha; rw [he _ ((h.oi i hi hq).a_lt a ha)]; exact h.ti i hi hq a ha
  · intro s m hm
    refine ⟨(h.rd s m hm).1, fun a ha => ?_⟩
    have := (h.rd s m hm).2 a ha
    rw [he _ this.2.2]; exact this

/-- three more lists come out -/
theorem Fo.add3 {B : Nat} {o : Addr} {l lr mr : Sl} {ls lss : List Sl} {tag : Nat → Nat} {w wa wc w1 : World} {ms : List Int} {cont : Nat → List Int}
    (h : Fo B o l ls 0 0 tag w lr mr lss ms cont []) (hB : B ≤ w.heap.size) (ha : Below w.heap.size w wa) (hc : Below wa.heap.size wa wc) (h1 : Below wc.heap.size wc w1)
    {s0 s1 s2 : Sl} {z0 z1 z2 : List Int} (k0 : Own B8 5 w.heap.size wa s0 z0) (k1 : Own B8 5 wa.heap.size wc s1 z1) (k2 : Own B8 5 wc.heap.size w1 s2 z2) (hl : (ls.length + 3) * 24 ≤ 140737488355328) :
    ∃ l2 w2 tag2, (Builtin.append_ #[26, 26] 26 #[.slice l.a l.n l.c, .slice (some ⟨w1.heap.size, 0, none⟩) 3 3]).run Try.prog (w1.alloc (.cells #[s0.v, s1.v, s2.v] 22)) = .ok (.slice l2.a l2.n l2.c) w2 ∧
      Fo B o l2 (ls ++ [s0, s1, s2]) 0 0 tag2 w2 lr mr lss ms (fun i => if i = ls.length then z0 else if i = ls.length + 1 then z1 else if i = ls.length + 2 then z2 else cont i) [] ∧ (w1.alloc (.cells #[s0.v, s1.v, s2.v] 22)).grownBy w2 l.blk ∧ (∀ k, l.blk = some k → B ≤ k) := by
  have hac := ha.trans (hc.mono ha.size)
  have h01 := hac.trans (h1.mono hac.size)
  have sa := ha.size
  have sc := hc.size
  have s1' := h1.size
  have f1 := (((h.retag (4 + ls.length)).retags (tag' := fun b => if b < w.heap.size then tag b else if b < wa.heap.size then 4 + ls.length else if b < wc.heap.size then 5 + ls.length else 6 + ls.length) (fun b hb => by rw [tagged_old hb]; exact if_pos hb)).keep
    ((grown_of_below' h01 none).trans (World.grownBy_alloc w1 (.cells #[s0.v, s1.v, s2.v] 22) none)))
  generalize htag : (fun b => if b < w.heap.size then tag b else if b < wa.heap.size then 4 + ls.length else if b < wc.heap.size then 5 + ls.length else 6 + ls.length) = tag1 at f1
  have ka : ∀ {s z}, Own B8 5 B w1 s z → Own B8 5 B (w1.alloc (.cells #[s0.v, s1.v, s2.v] 22)) s z := fun {s z} hs => hs.kept (World.grownBy_alloc w1 _ none) (by cases s.blk <;> simp)
  have K0 := ka (((k0.below hc).below h1).lower hB)
  have K1 := ka ((k1.below h1).lower (Nat.le_trans hB sa))
  have K2 := ka (k2.lower (Nat.le_trans hB (Nat.le_trans sa sc)))
  have t0 : ∀ a, s0.a = some a → tag1 a.block = 4 + ls.length := by
    intro a ha
    have := k0.blk_ge _ (k0.a_blk a ha)
    rw [← htag]
    simp only
    rw [if_neg (by omega), if_pos (by omega)]
  have t1 : ∀ a, s1.a = some a → tag1 a.block = 5 + ls.length := by
    intro a ha
    have := k1.blk_ge _ (k1.a_blk a ha)
    rw [← htag]
    simp only
    rw [if_neg (by omega), if_neg (by omega), if_pos (by omega)]
  have t2 : ∀ a, s2.a = some a → tag1 a.block = 6 + ls.length := by
    intro a ha
    have := k2.blk_ge _ (k2.a_blk a ha)
    rw [← htag]
    simp only
    rw [if_neg (by omega), if_neg (by omega), if_neg (by omega)]
  have hrS := rd_litS w1 [s0, s1, s2] (by simp [maxLen])
  have hBw : B ≤ (w1.alloc (.cells #[s0.v, s1.v, s2.v] 22)).heap.size := by
    have : w1.heap.size ≤ (w1.alloc (.cells #[s0.v, s1.v, s2.v] 22)).heap.size := by simp
    omega
  clear k0 k1 k2 ka htag h ha hc h1 hac h01
  replace f1 := f1.retag 3
  obtain ⟨l2, w2, hrun, hap⟩ := ap_many (ty := 26) (s' := ⟨some ⟨w1.heap.size, 0, none⟩, 3, 3⟩) ty26 svone f1.oa hrS hBw (by simpa using hl)
  have t0' : ∀ a, s0.a = some a → tagged tag1 (w1.alloc (.cells #[s0.v, s1.v, s2.v] 22)) 3 a.block = 4 + ls.length := fun a ha => by rw [tagged_old (K0.a_lt a ha)]; exact t0 a ha
  have t1' : ∀ a, s1.a = some a → tagged tag1 (w1.alloc (.cells #[s0.v, s1.v, s2.v] 22)) 3 a.block = 5 + ls.length := fun a ha => by rw [tagged_old (K1.a_lt a ha)]; exact t1 a ha
  have t2' : ∀ a, s2.a = some a → tagged tag1 (w1.alloc (.cells #[s0.v, s1.v, s2.v] 22)) 3 a.block = 6 + ls.length := fun a ha => by rw [tagged_old (K2.a_lt a ha)]; exact t2 a ha
  have hr : ∀ b, l.blk = some b → tagged tag1 (w1.alloc (.cells #[s0.v, s1.v, s2.v] 22)) 3 b = 3 := fun b hb => f1.ta _ (f1.oa.blk_a b hb)
  have hkeep := f1.keepO hap.grown hr (by omega)
  refine ⟨l2, w2, tagged tag1 (w1.alloc (.cells #[s0.v, s1.v, s2.v] 22)) 3, hrun, ?_, hap.grown, fun k hk => (f1.oa.blk_ge k hk).1⟩
  have hitems : ∀ i (hi : i < (ls ++ [s0, s1, s2]).length), (Own B8 5 B w2 (ls ++ [s0, s1, s2])[i] (if i = ls.length then z0 else if i = ls.length + 1 then z1 else if i = ls.length + 2 then z2 else cont i)) ∧ ∀ a, (ls ++ [s0, s1, s2])[i].a = some a → tagged tag1 (w1.alloc (.cells #[s0.v, s1.v, s2.v] 22)) 3 a.block = 4 + i := by
    intro i hi
    rcases Nat.lt_or_ge i ls.length with hlt | hge
    · rw [List.getElem_append_left hlt, if_neg (by omega), if_neg (by omega), if_neg (by omega)]
      exact ⟨(f1.oi i hlt (by omega)).keepT hap.grown hr (f1.ti i hlt (by omega)) (by omega), f1.ti i hlt (by omega)⟩
    · simp at hi
      have hcase : i = ls.length ∨ i = ls.length + 1 ∨ i = ls.length + 2 := by omega
      rcases hcase with rfl | rfl | rfl
      · have e : (ls ++ [s0, s1, s2])[ls.length]'(by simp) = s0 := by simp
        rw [e, if_pos rfl]
        exact ⟨K0.keepT hap.grown hr t0' (by omega), t0'⟩
      · have e : (ls ++ [s0, s1, s2])[ls.length + 1]'(by simp) = s1 := by simp
        rw [e, if_neg (by omega), if_pos rfl]
        exact ⟨K1.keepT hap.grown hr t1' (by omega), fun a ha => by rw [t1' a ha]; omega⟩
      · have e : (ls ++ [s0, s1, s2])[ls.length + 2]'(by simp) = s2 := by simp
        rw [e, if_neg (by omega), if_neg (by omega), if_pos rfl]
        exact ⟨K2.keepT hap.grown hr t2' (by omega), fun a ha => by rw [t2' a ha]; omega⟩
  refine { co := hkeep.1, cm := hkeep.2.1, fo := hkeep.2.2.1, fm := hkeep.2.2.2, ob := f1.ob, ol := f1.ol.keepT hap.grown hr f1.tl (by omega), om := f1.om.keepT hap.grown hr f1.tm (by omega), oa := hap.own, oi := fun i hi _ => (hitems i hi).1, tl := f1.tl, tm := f1.tm, ta := ?_, ti := fun i hi _ => (hitems i hi).2, rd := fun s m hm => (nomatch hm) }
  intro a ha
  have hb := hap.own.a_blk a ha
  rcases hap.blk with h1 | ⟨b, h1, h2⟩
  · exact hr _ (by rw [← h1]; exact hb)
  · rw [hb] at h1; cases h1; exact tagged_new h2
theorem D21 {o : Addr} {l : Sl} {ls : List Sl} {zs : Nat → List Int} {tag : Nat → Nat} {w wb : World} {B : Nat} (hB0 : B ≤ wb.heap.size) (hB : Bo o.block B wb w) (h : Fo B o l ls 0 0 tag w ⟨none, 0, 0⟩ ⟨none, 0, 0⟩ [] [] zs [])
    (hls : ls.length ≤ 100) (hsz : ∀ i, i < ls.length → (zs i).length + 100 ≤ 140737488355328) :
    Calls Try.prog 21 #[.pointer (some o), .slice l.a l.n l.c] w (fun e w1 => e = .returned (.tuple #[] : Value) ∧ (Bo o.block B wb w1 ∧ Full B o w1)) := by
  refine F21_sound (some o) l (fun w1 => Bo o.block B wb w1 ∧ Full B o w1) w ?_
  unfold F21
  refine ⟨o, rfl, ⟨none, 0, 0⟩, h.co, ?_⟩
  have hln := h.oa.len
  refine ⟨fun i wr => ∃ (p : Nat) (tag : Nat → Nat) (lr mr : Sl) (cont : Nat → List Int), i = (p : Int) ∧ p ≤ ls.length ∧ Fo B o l ls 0 0 tag wr lr mr (ls.take p) (marks p) cont [] ∧ Bo o.block B wb wr ∧ (∀ i, i < ls.length → (cont i).length = (zs i).length) ∧
    ∀ i, i < p → ∀ j, j < (cont i).length → (cont i)[j]? = some ((i + 1 : Nat) : Int), fun i _ => ls.length - i.toNat, ⟨0, tag, _, _, zs, rfl, by omega, h, hB, fun _ _ => rfl, fun i hi => by omega⟩, ?_⟩
  rintro _ wr ⟨p, tg, lr, mr, cont, rfl, hp, f, b, hlen, hfull⟩
  unfold F21_l1
  have hlr := f.ol.len
  have hlr' : lr.n = p := by rw [← hlr]; simp; omega
  refine ⟨fun hlt => ?_, fun hge => ?_⟩
  · refine ⟨o, rfl, lr, f.co, ?_⟩
    have hm : IntKind.u8.wrap (IntKind.i64.wrap ((lr.n : Int) + 1)) = ((p + 1 : Nat) : Int) := by
      rw [w_i64 (by omega) (by omega), w_u8 (by omega) (by omega)]; omega
    have hpl : p < ls.length := by omega
    refine ⟨fun k wr => ∃ (k' : Nat) (cont : Nat → List Int), k = (k' : Int) ∧ k' ≤ ls[p].n ∧ Fo B o l ls 0 0 tg wr lr mr (ls.take p) (marks p) cont [] ∧ Bo o.block B wb wr ∧ (∀ i, i < ls.length → (cont i).length = (zs i).length) ∧
      (∀ i, i < p → ∀ j, j < (cont i).length → (cont i)[j]? = some ((i + 1 : Nat) : Int)) ∧ (∀ j, j < k' → (cont p)[j]? = some ((p + 1 : Nat) : Int)), fun k _ => ls[p].n - k.toNat, ⟨0, cont, rfl, by omega, f, b, hlen, hfull, fun j hj => by omega⟩, ?_⟩
    clear f b hlen hfull cont hlr
    rintro _ wr ⟨k, cont, rfl, hk, f, b, hlen, hfull, hpart⟩
    unfold F21_l2
    obtain ⟨al, hal, hcl⟩ := f.oa.rd.at p hpl
    have hnp := (f.oi p hpl (by omega)).len
    have hzp := hsz p hpl
    have hlp := hlen p hpl
    refine ⟨by omega, by omega, al, hal, ls[p], by simpa using hcl, fun hk1 => ?_, fun hk1 => ?_⟩
    · refine ⟨by omega, by omega, al, hal, ls[p], by simpa using hcl, by omega, by omega, ?_⟩
      obtain ⟨a, ha, hc, f2, hg⟩ := f.item p hpl (by omega) (by omega) k (by omega) ((p + 1 : Nat) : Int)
      refine ⟨a, ha, by simpa using hc, ?_⟩
      rintro _ rfl
      rw [hm, w_i64 (by omega) (by omega)]
      refine ⟨⟨k + 1, _, by omega, by omega, by simpa using f2, ?_, ?_, ?_, ?_⟩, by show ls[p].n - ((k : Int) + 1).toNat < ls[p].n - ((k : Int)).toNat; omega⟩
      · exact b.grown hg (Nat.le_trans hB0 b.size) (fun k' hk' => .inl ((f.oi p hpl (by omega)).blk_ge k' hk').1)
      · intro i hi
        by_cases hip : i = p
        · subst hip; simp [hlen i hi]
        · simp [hip, hlen i hi]
      · intro i hi
        simp only [if_neg (show i ≠ p by omega)]
        exact hfull i hi
      · intro j hj
        simp only [↓reduceIte]
        rw [List.getElem?_set]
        by_cases hjk : k = j
        · rw [if_pos hjk, if_pos (by omega)]; exact congrArg some (by omega)
        · rw [if_neg hjk]; exact hpart j (by omega)
    · rintro _ rfl
      have f1 := f.keep (grown_drew wr)
      have b1 : Bo o.block B wb wr.drew := b.drew
      refine ⟨o, rfl, lr, f1.co, by omega, by omega, al, hal, ls[p], by simpa using hcl, ?_⟩
      rintro _ rfl
      obtain ⟨lr2, w2, tg2, hrun, hc2, htg, f2, hg2⟩ := f1.pushL (Nat.le_trans hB0 b1.size) ls[p] (by simp; omega)
      refine ⟨lr2, w2, hrun, o, rfl, hc2, ?_⟩
      have b2 : Bo o.block B wb w2 := b1.grown hg2 (Nat.le_trans hB0 b1.size) (fun k' hk' => .inl (f1.ol.blk_ge k' hk').1)
      rintro _ rfl
      have b3 : Bo o.block B wb (w2.setCell o lr2.v) := b2.set rfl (Nat.le_trans hB0 b2.size) _
      refine ⟨o, rfl, mr, f2.cm, ?_⟩
      rintro _ rfl
      rw [hm]
      obtain ⟨mr2, w4, tg4, hrun4, hc4, htg4, f4, hg4⟩ := f2.pushM (Nat.le_trans hB0 b3.size) ((p + 1 : Nat) : Int) (by rw [marks_len]; omega)
      refine ⟨mr2, w4, hrun4, o, rfl, hc4, ?_⟩
      have b4 : Bo o.block B wb w4 := b3.grown hg4 (Nat.le_trans hB0 b3.size) (fun k' hk' => .inl (f2.om.blk_ge k' hk').1)
      rintro _ rfl
      have b5 : Bo o.block B wb (w4.setCell (o.add 1) mr2.v) := b4.set (add_block _ _) (Nat.le_trans hB0 b4.size) _
      rw [w_i64 (by omega) (by omega)]
      refine ⟨⟨p + 1, tg4, lr2, mr2, cont, by omega, by omega, ?_, b5, hlen, ?_⟩, by show ls.length - ((p : Int) + 1).toNat < ls.length - ((p : Int)).toNat; omega⟩
      · rw [marks_succ, List.take_add_one, List.getElem?_eq_getElem hpl]
        exact f4
      · intro i hi j hj
        by_cases hip : i < p
        · exact hfull i hip j hj
        · have : i = p := by omega
          subst this
          exact hpart j (by omega)
  · have hpN : p = ls.length := by omega
    subst hpN
    refine ⟨o, rfl, lr, f.co, ?_⟩
    rw [List.take_length] at f
    have hcont : ∀ i, i < ls.length → ∀ h : i < ls.length, cont i = List.replicate ls[i].n ((i + 1 : Nat) : Int) := by
      intro i hi h
      have := all_rep (hfull i hi)
      rw [(f.oi i h (by omega)).len] at this
      exact this
    refine ⟨fun i wr => ∃ (q : Nat) (tag : Nat → Nat) (lr mr : Sl) (lss : List Sl) (ms : List Int) (rs : List (Sl × Int)), i = (q : Int) ∧ q ≤ ls.length ∧ Fo B o l ls q q tag wr lr mr lss ms cont rs ∧ Bo o.block B wb wr ∧ lss.length = ls.length + q ∧ ms.length = ls.length + q ∧
      (∀ i, i < ls.length → lss[i]? = ls[i]?) ∧ (∀ i, i < ls.length → ms[i]? = some ((i + 1 : Nat) : Int)) ∧ (∀ (i : Nat) (s : Sl) (m : Int), (i < q ∨ ls.length ≤ i) → lss[i]? = some s → ms[i]? = some m → (s, m) ∈ rs), fun i _ => ls.length - i.toNat,
      ⟨0, tg, lr, mr, ls, marks ls.length, [], rfl, by omega, f, b, by omega, by rw [marks_len]; omega, fun _ _ => rfl, fun i hi => marks_at _ _ hi, fun i s m h1 h2 h3 => ?_⟩, ?_⟩
    · have := (List.getElem?_eq_some_iff.1 h2).1
      omega
    clear f b hlen hfull hlr
    rintro _ wr ⟨q, tg, lr2, mr, lss, ms, rs, rfl, hq, f, b, hl1, hl2, hls1, hms1, hmem⟩
    unfold F21_l3
    have hlr2 := f.ol.len
    have hmr2 := f.om.len
    refine ⟨fun hlt => ?_, fun hge => ?_⟩
    · have hqN : q < ls.length := by omega
      obtain ⟨al, hal, hcl⟩ := f.ol.rd.at q (by omega)
      have eq1 : lss[q]'(by omega) = ls[q] := by
        have := hls1 q hqN
        rw [List.getElem?_eq_getElem (by omega), List.getElem?_eq_getElem hqN] at this
        exact Option.some.inj this
      have eq2 : ms[q]'(by omega) = ((q + 1 : Nat) : Int) := by
        have := hms1 q hqN
        rw [List.getElem?_eq_getElem (by omega)] at this
        exact Option.some.inj this
      rw [eq1] at hcl
      refine ⟨o, rfl, lr2, f.co, by omega, by omega, al, hal, ls[q], by simpa using hcl, ?_⟩
      obtain ⟨f0, g0, t0, e0⟩ := f.start hqN
      have hsq := hsz q hqN
      have hnq : ls[q].n + 100 ≤ 140737488355328 := by
        have h1 := (f.oi q hqN (Nat.le_refl _)).len
        rw [hcont q hqN hqN] at h1 g0
        have h2 := (h.oi q hqN (by omega)).len
        omega
      rw [hcont q hqN hqN] at g0 e0
      refine ⟨fun s wr => ∃ (k : Nat) (tag : Nat → Nat), s.2 = (k : Int) ∧ k ≤ 70 ∧ Fo B o l ls (q + 1) q tag wr lr2 mr lss ms cont rs ∧ Own B8 5 B wr s.1 (List.replicate (ls[q].n + k) ((q + 1 : Nat) : Int)) ∧ (∀ a, s.1.a = some a → tag a.block = 4 + q) ∧
        Eld wr tag q ls[q] (List.replicate ls[q].n ((q + 1 : Nat) : Int)) s.1 (List.replicate (ls[q].n + k) ((q + 1 : Nat) : Int)) ∧ Bo o.block B wb wr, fun s _ => 70 - s.2.toNat, ⟨0, tg, rfl, by omega, f0, g0, t0, e0, b⟩, ?_⟩
      clear f0 g0 t0 e0 f b
      rintro ⟨g, _⟩ wr2 ⟨k, tg, rfl, hk, f, og, tgg, el, b⟩
      dsimp only at og tgg el
      unfold F21_l4
      obtain ⟨am, ham, hcm⟩ := f.om.rd.at q (by omega)
      rw [eq2] at hcm
      refine ⟨fun h70 => ?_, fun h70 => ?_⟩
      · refine ⟨o, rfl, mr, f.cm, by omega, by omega, am, ham, _, by simpa using hcm, ?_⟩
        rintro _ rfl
        obtain ⟨g2, w2, tg2, hrun, f2, og2, tgg2, el2, hg2⟩ := f.grow (Nat.le_trans hB0 b.size) og tgg el ((q + 1 : Nat) : Int) (by simp; omega)
        rw [← List.replicate_succ'] at og2 el2
        refine ⟨g2, w2, hrun, ⟨k + 1, tg2, ?_, by omega, f2, og2, tgg2, el2, b.grown hg2 (Nat.le_trans hB0 b.size) (fun k' hk' => .inl (og.blk_ge k' hk').1)⟩, ?_⟩
        · show IntKind.i64.wrap ((k : Int) + 1) = _
          rw [w_i64 (by omega) (by omega)]; omega
        · show 70 - (IntKind.i64.wrap ((k : Int) + 1)).toNat < 70 - ((k : Int)).toNat
          rw [w_i64 (by omega) (by omega)]; omega
      · have hgn := og.len
        simp only [List.length_replicate] at hgn
        rw [hgn] at og
        have f2 := f.done (m := ((q + 1 : Nat) : Int)) og tgg el
        refine ⟨o, rfl, lr2, f2.co, ?_⟩
        rintro _ rfl
        obtain ⟨lr3, w3, tg3, hrun3, hc3, htg3, f3, hg3⟩ := f2.pushL (Nat.le_trans hB0 b.size) g (by omega)
        refine ⟨lr3, w3, hrun3, o, rfl, hc3, ?_⟩
        have b3 : Bo o.block B wb w3 := b.grown hg3 (Nat.le_trans hB0 b.size) (fun k' hk' => .inl (f2.ol.blk_ge k' hk').1)
        rintro _ rfl
        have b4 : Bo o.block B wb (w3.setCell o lr3.v) := b3.set rfl (Nat.le_trans hB0 b3.size) _
        rintro _ rfl
        have f5 := f3.keep (grown_drew _)
        have b5 : Bo o.block B wb (w3.setCell o lr3.v).drew := b4.drew
        obtain ⟨am2, ham2, hcm2⟩ := f5.om.rd.at q (by omega)
        rw [eq2] at hcm2
        refine ⟨o, rfl, mr, f5.cm, o, rfl, mr, f5.cm, by omega, by omega, am2, ham2, _, by simpa using hcm2, ?_⟩
        rintro _ rfl
        obtain ⟨mr6, w6, tg6, hrun6, hc6, htg6, f6, hg6⟩ := f5.pushM (Nat.le_trans hB0 b5.size) ((q + 1 : Nat) : Int) (by omega)
        refine ⟨mr6, w6, hrun6, o, rfl, hc6, ?_⟩
        have b6 : Bo o.block B wb w6 := b5.grown hg6 (Nat.le_trans hB0 b5.size) (fun k' hk' => .inl (f5.om.blk_ge k' hk').1)
        rintro _ rfl
        have b7 : Bo o.block B wb (w6.setCell (o.add 1) mr6.v) := b6.set (add_block _ _) (Nat.le_trans hB0 b6.size) _
        rw [w_i64 (by omega) (by omega)]
        refine ⟨⟨q + 1, tg6, lr3, mr6, _, _, _, by omega, by omega, f6, b7, by simp; omega, by simp; omega, ?_, ?_, ?_⟩, by show ls.length - ((q : Int) + 1).toNat < ls.length - ((q : Int)).toNat; omega⟩
        · intro i hi
          rw [List.getElem?_append_left (by omega)]; exact hls1 i hi
        · intro i hi
          rw [List.getElem?_append_left (by omega)]; exact hms1 i hi
        · intro i s m hi h1 h2
          simp only [List.mem_append, List.mem_cons, Prod.mk.injEq, List.not_mem_nil, or_false]
          by_cases hlast : i < ls.length + q
          · rw [List.getElem?_append_left (by omega)] at h1 h2
            by_cases hiq : i = q
            · subst hiq
              right; left
              rw [List.getElem?_eq_getElem (by omega), eq1] at h1
              rw [List.getElem?_eq_getElem (by omega), eq2] at h2
              exact ⟨(Option.some.inj h1).symm, (Option.some.inj h2).symm⟩
            · left; exact hmem i s m (by omega) h1 h2
          · right; right
            have h3 := (List.getElem?_eq_some_iff.1 h1).1
            simp at h3
            have : i = ls.length + q := by omega
            subst this
            rw [← hl1, List.getElem?_concat_length] at h1
            rw [← hl2, List.getElem?_concat_length] at h2
            exact ⟨(Option.some.inj h1).symm, (Option.some.inj h2).symm⟩
    · have hqN : q = ls.length := by omega
      subst hqN
      refine ⟨b, lr2, mr, lss, ms, f.co, f.cm, f.ol, f.om, by omega, by omega, fun i s m h1 h2 => ?_⟩
      exact (f.rd s m (hmem i s m (by omega) h1 h2)).1

end Go.Proofs.Ythhcaaellhdkiaa
