/- QuotaPlays, walked: two books in turns, and the document's beside them. -/
import Derived.Test.YthhcaaellhdkiaaQJ
import Derived.Test.YthhcaaellhdkiaaGQ11
namespace Go.Proofs.Ythhcaaellhdkiaa
open Go Go.RowKit Go.Proofs.Ythhcaaellhdkiaa.SX
set_option linter.unusedVariables false

theorem put_len (m : Accs) (t : ByteArray) (a : Acc) : (put m t a).length ≤ m.length + 1 := by
  unfold put; split <;> simp
theorem putM_len (m : Accs) (t : ByteArray) (a : Acc) : (putM m t a).length ≤ m.length + 1 := by
  unfold putM; split <;> simp
theorem takeM_len (m : Accs) (t : ByteArray) (win n k : Int) : (takeM m t win n k).length ≤ m.length + 1 := by
  unfold takeM; split
  · exact put_len _ _ _
  · omega
theorem del_len (m : Accs) (t : ByteArray) : (del m t).length ≤ m.length + 1 := by
  unfold del; split
  · have := List.length_eraseIdx_le m ‹_›; omega
  · omega
structure Q2c (W : World) (gB : Nat) (cs : Array Value) (P O : PK) (n : Nat) (m m' : Accs) (f f' : Nat → Prop) (w : World) : Prop where
  p : Pq w P m f
  o : Pq w O m' f'
  l1 : m.length ≤ n
  l2 : m'.length ≤ n
  d : ∀ k, f k → ¬ f' k
  g1 : ¬ f gB
  g2 : ¬ f' gB
  b1 : ∀ k, f k → W.heap.size ≤ k
  b2 : ∀ k, f' k → W.heap.size ≤ k
  row : w.heap[gB]? = some (.cells cs 98 (0, 0))
  bel : Below W.heap.size W w
def Q2 (W : World) (gB : Nat) (cs : Array Value) (P O : PK) (n : Nat) (w : World) : Prop := ∃ m m' f f', Q2c W gB cs P O n m m' f f' w
section
variable {W w w' w1 : World} {gB n n' : Nat} {cs : Array Value} {P O : PK} {m m' m1 : Accs} {f f' f1 : Nat → Prop}
theorem Q2c.swap (h : Q2c W gB cs P O n m m' f f' w) : Q2c W gB cs O P n m' m f' f w := ⟨h.o, h.p, h.l2, h.l1, fun k h1 h2 => h.d k h2 h1, h.g2, h.g1, h.b2, h.b1, h.row, h.bel⟩
theorem Q2.swap (h : Q2 W gB cs P O n w) : Q2 W gB cs O P n w := by
  obtain ⟨m, m', f, f', h⟩ := h
  exact ⟨m', m, f', f, h.swap⟩
theorem Q2c.below (h : Q2c W gB cs P O n m m' f f' w) (hb : Below w.heap.size w w') : Q2c W gB cs P O n m m' f f' w' :=
  ⟨h.p.below hb, h.o.below hb, h.l1, h.l2, h.d, h.g1, h.g2, h.b1, h.b2, (Gr.below hb (S := fun _ => False)).blk h.row (fun h => h), h.bel.trans (hb.mono h.bel.size)⟩
theorem Q2.below (h : Q2 W gB cs P O n w) (hb : Below w.heap.size w w') : Q2 W gB cs P O n w' := by
  obtain ⟨m, m', f, f', h⟩ := h
  exact ⟨m, m', f, f', h.below hb⟩
theorem Q2c.upP (h : Q2c W gB cs P O n m m' f f' w) (hP : Pq w1 P m1 f1) (hl : m1.length ≤ n') (hn : n ≤ n') (hg : Gr f w w1) (hf : ∀ k, f1 k → f k ∨ w.heap.size ≤ k) : Q2c W gB cs P O n' m1 m' f1 f' w1 := by
  have hgB := row_lt h.row
  have sW := h.bel.size
  have l2 := h.l2
  refine ⟨hP, h.o.keep hg (fun k hk hk' => h.d k hk' hk), hl, by omega, fun k hk hk' => ?_, fun hk => ?_, h.g2, fun k hk => ?_, h.b2, hg.blk h.row h.g1, h.bel.trans (hg.toBelow h.bel.size h.b1)⟩
  · rcases hf k hk with h3 | h3
    · exact h.d k h3 hk'
    · have := h.o.lt k hk'; omega
  · rcases hf _ hk with h3 | h3
    · exact h.g1 h3
    · omega
  · rcases hf k hk with h3 | h3
    · exact h.b1 k h3
    · omega
theorem below_drew {B : Nat} {w w' : World} (h : Below B w w') : Below B w w'.drew := below_draw h 1
theorem C51 {x : QOp} (c : Q2c W gB cs P O n m m' f f' w) (hn : n ≤ 900000) (hx : x.w ≤ 9223372036854775807 ∧ x.a.wi ≤ 9223372036854775807) :
    Calls Try.prog 51 #[.agg #[.pointer (some ⟨P.q, 0, none⟩), .pointer (some ⟨P.r, 0, none⟩)], .agg #[.int .i64 x.kd, .int .i64 x.on, .string x.tn, .int .i64 x.w, .int .i64 x.n, .int .i64 x.m, .int .i64 x.a.ms, .int .i64 x.a.mp, .int .i64 x.a.sr, .int .i64 x.a.wr, .int .i64 x.a.wi], .agg #[.pointer (some ⟨O.q, 0, none⟩), .pointer (some ⟨O.r, 0, none⟩)]] w
      (fun e w1 => ∃ (r0 : Bool), e = .returned (.bool r0 : Value) ∧ (r0 = true ∧ Q2 W gB cs P O (n + 1) w1 ∧ Gr (fun k => f k ∨ f' k) w w1)) := by
  refine F51_sound _ _ x.kd x.on x.tn x.w x.n x.m x.a.ms x.a.mp x.a.sr x.a.wr x.a.wi _ _ (fun r0 w1 => r0 = true ∧ Q2 W gB cs P O (n + 1) w1 ∧ Gr (fun k => f k ∨ f' k) w w1) w ?_
  unfold F51
  intro w16 hw16
  have r16 : Row2 w16 w.heap.size (some ⟨P.q, 0, none⟩) (some ⟨P.r, 0, none⟩) := by rw [hw16]; exact Row2.new w _ _
  have b16 : Below w.heap.size w w16 := by rw [hw16]; exact (Below.refl _ _).alloc (Nat.le_refl _) _
  have z16 : w16.heap.size = w.heap.size + 1 := by rw [hw16]; simp
  clear hw16
  intro w17 hw17
  have o17 : Row11 w17 w16.heap.size x := by rw [hw17]; exact heap_alloc_new w16 _
  have b17 : Below w16.heap.size w16 w17 := by rw [hw17]; exact (Below.refl _ _).alloc (Nat.le_refl _) _
  have z17 : w17.heap.size = w16.heap.size + 1 := by rw [hw17]; simp
  clear hw17
  intro w18 hw18
  have t18 : Row2 w18 w17.heap.size (some ⟨O.q, 0, none⟩) (some ⟨O.r, 0, none⟩) := by rw [hw18]; exact Row2.new w17 _ _
  have b18 : Below w17.heap.size w17 w18 := by rw [hw18]; exact (Below.refl _ _).alloc (Nat.le_refl _) _
  have z18 : w18.heap.size = w17.heap.size + 1 := by rw [hw18]; simp
  clear hw18
  have r18 := (r16.below b17).below b18
  have o18 := o17.below b18
  have fl := c.p.lt
  have fl' := c.o.lt
  have c18 := ((c.below b16).below b17).below b18
  have g18 : Gr (fun _ => False) w w18 := ((Gr.below b16 (S := fun _ => False)).trans (Gr.below b17 (S := fun _ => False)) (fun _ _ h => h)).trans (Gr.below b18 (S := fun _ => False)) (fun _ _ h => h)
  have gd18 : Gr (fun _ => False) w w18.drew := gr_drewN g18 1
  clear r16 o17 b16 b17 b18 c
  -- where the first pair was called
  have finP : ∀ (wq w1 w2 : World) (mm : Accs) (s : Sl) (g : Nat → Prop), Gr (fun _ => False) w wq → Q2c W gB cs P O n m m' f f' wq → Rf wq P.r s m g → (∀ k, g k → f k) → ¬ g P.q → ¬ g P.b → Bk w1 P.q P.b mm → Gr (fun k => k = P.b) wq w1 → RfR w1 P.r mm g w2 → Inv mm → mm.length ≤ m.length + 1 → Q2 W gB cs P O (n + 1) w2 ∧ Gr (fun k => f k ∨ f' k) w w2 := by
    intro wq w1 w2 mm s g hw cq hr0 hgf h1 h2 hb hg1 hr hi hlen
    obtain ⟨f1, hP, hG, hf⟩ := cq.p.after hr0 hgf h1 h2 hb hg1 hr hi
    exact ⟨⟨_, _, _, _, cq.upP hP (by have := cq.l1; omega) (by omega) hG hf⟩, (hw.mono (fun _ h => h.elim)).trans hG (fun _ _ h => .inl h)⟩
  have finO : ∀ (wq w1 w2 : World) (mm : Accs) (s : Sl) (g : Nat → Prop), Gr (fun _ => False) w wq → Q2c W gB cs P O n m m' f f' wq → Rf wq O.r s m' g → (∀ k, g k → f' k) → ¬ g O.q → ¬ g O.b → Bk w1 O.q O.b mm → Gr (fun k => k = O.b) wq w1 → RfR w1 O.r mm g w2 → Inv mm → mm.length ≤ m'.length + 1 → Q2 W gB cs P O (n + 1) w2 ∧ Gr (fun k => f k ∨ f' k) w w2 := by
    intro wq w1 w2 mm s g hw cq hr0 hgf h1 h2 hb hg1 hr hi hlen
    obtain ⟨f1, hP, hG, hf⟩ := cq.o.after hr0 hgf h1 h2 hb hg1 hr hi
    have := cq.swap.upP hP (n' := n + 1) (by have := cq.l2; omega) (by omega) hG hf
    exact ⟨⟨_, _, _, _, this.swap⟩, (hw.mono (fun _ h => h.elim)).trans hG (fun _ _ h => .inr h)⟩
  have hl1 := c18.l1
  have hl2 := c18.l2
  have far : ∀ k, w.heap.size ≤ k → ¬ k = P.b ∧ ¬ k = O.b := fun k hk => ⟨fun e => by have := fl _ c18.p.fb; omega, fun e => by have := fl' _ c18.o.fb; omega⟩
  have d18 : Q2c W gB cs P O n m m' f f' w18.drew := c18.below (below_drew (Below.refl _ _))
  have rd18 : Row2 w18.drew w.heap.size _ _ := r18.below (below_drew (Below.refl _ _))
  have od18 : Row11 w18.drew w16.heap.size x := o18.below (below_drew (Below.refl _ _))
  have sd18 : w18.drew.heap.size = w18.heap.size := rfl
  obtain ⟨s, g, hrf, hgf, hn1, hn2⟩ := d18.p.rf
  have j1 : ∀ bq : Bool, F51_j1 (fun r0 w1 => r0 = true ∧ Q2 W gB cs P O (n + 1) w1 ∧ Gr (fun k => f k ∨ f' k) w w1) w w16 w17 x.kd bq w18 := by
    intro bq
    unfold F51_j1
    refine ⟨fun _ => ?_, fun _ => ⟨fun _ => ?_, fun _ => ⟨fun _ => ?_, fun _ => ⟨rfl, ⟨_, _, _, _, ⟨c18.p, c18.o, by omega, by omega, c18.d, c18.g1, c18.g2, c18.b1, c18.b2, c18.row, c18.bel⟩⟩, g18.mono (fun _ h => h.elim)⟩⟩⟩⟩
    · rintro _ rfl
      refine ⟨_, rd18.c0, _, od18.at 2, _, od18.at 3, _, od18.at 4, _, od18.at 5, _, rd18.c1, _, od18.at 2, _, od18.at 3, _, od18.at 4, _, od18.at 5, (C31 d18.p.bk d18.p.inv x.tn x.w x.n x.m).mono ?_⟩
      rintro _ w57 ⟨_, rfl, rfl, h57, g57⟩
      have o57 := od18.keep g57 (far _ (by omega)).1
      have r57 := rd18.keep g57 (far _ (by omega)).1
      have rf57 := hrf.keep g57 (fun k hk e => hn2 (by rw [← show k = P.b from e]; exact hk))
      refine ⟨_, rfl, o57.at 5, o57.at 4, o57.at 3, o57.at 2, r57.c1, (C66 rf57 d18.p.inv x.tn x.w x.n x.m (by omega)).mono ?_⟩
      rintro _ w59 ⟨_, rfl, rfl, h59⟩
      exact ⟨_, rfl, by simp, finP _ _ _ _ _ _ gd18 d18 hrf hgf hn1 hn2 h57 g57 h59 (inv_take d18.p.inv _ _ _ _ hx.1) (takeM_len _ _ _ _ _)⟩
    · rintro _ rfl
      refine ⟨_, rd18.c0, _, od18.at 2, x.a.ms, x.a.mp, x.a.sr, x.a.wr, x.a.wi, od18.acc, _, rd18.c1, _, od18.at 2, x.a.ms, x.a.mp, x.a.sr, x.a.wr, x.a.wi, od18.acc, (C48 d18.p.bk d18.p.inv x.tn x.a).mono ?_⟩
      rintro _ w57 ⟨_, rfl, rfl, h57, g57⟩
      have o57 := od18.keep g57 (far _ (by omega)).1
      have r57 := rd18.keep g57 (far _ (by omega)).1
      have rf57 := hrf.keep g57 (fun k hk e => hn2 (by rw [← show k = P.b from e]; exact hk))
      refine ⟨_, rfl, o57.acc, o57.at 2, r57.c1, (C67 rf57 x.tn x.a (by omega)).mono ?_⟩
      rintro _ w59 ⟨_, rfl, rfl, h59⟩
      exact ⟨_, rfl, by simp, finP _ _ _ _ _ _ gd18 d18 hrf hgf hn1 hn2 h57 g57 h59 (inv_put d18.p.inv _ _ hx.2) (putM_len _ _ _)⟩
    · refine ⟨_, r18.c0, _, o18.at 2, (C49 c18.p.bk x.tn).mono ?_⟩
      rintro _ w87 ⟨_, _, _, _, _, _, rfl, rfl, rfl, rfl, rfl, rfl, rfl, b87⟩
      refine ⟨_, _, _, _, _, _, rfl, ?_⟩
      intro w88 hw88
      have q88 : Row5 w88 w87.heap.size 87 .zero := by rw [hw88]; exact Row5.new w87 .zero 87
      have b88 : Below w87.heap.size w87 w88 := by rw [hw88]; exact (Below.refl _ _).alloc (Nat.le_refl _) _
      clear hw88
      refine ⟨q88.hass, ?_⟩
      intro w89 hw89
      obtain ⟨q89, g89⟩ : Row5 w89 w87.heap.size 87 (getA m x.tn) ∧ Gr (fun k => k = w87.heap.size) w88 w89 := by rw [hw89]; exact q88.sets (getA m x.tn)
      clear hw89
      have b89 := b88.trans (g89.toBelow b88.size (fun k hk => by omega))
      have B89 : Below w18.heap.size w18 w89 := b87.trans (b89.mono b87.size)
      have c89 := c18.below B89
      obtain ⟨s, g, hr89, _⟩ := c89.p.rf
      refine ⟨_, (r18.below B89).c1, _, (o18.below B89).at 2, (C68 hr89 x.tn (by omega)).mono ?_⟩
      rintro _ w98 ⟨_, _, _, _, _, _, rfl, rfl, rfl, rfl, rfl, rfl, rfl, b98⟩
      refine ⟨_, _, _, _, _, _, rfl, ?_⟩
      intro w99 hw99
      have q99 : Row5 w99 w98.heap.size 87 .zero := by rw [hw99]; exact Row5.new w98 .zero 87
      have b99 : Below w98.heap.size w98 w99 := by rw [hw99]; exact (Below.refl _ _).alloc (Nat.le_refl _) _
      clear hw99
      refine ⟨q99.hass, ?_⟩
      intro w100 hw100
      obtain ⟨q100, g100⟩ : Row5 w100 w98.heap.size 87 (getA m x.tn) ∧ Gr (fun k => k = w98.heap.size) w99 w100 := by rw [hw100]; exact q99.sets (getA m x.tn)
      clear hw100
      have b100 := b99.trans (g100.toBelow b99.size (fun k hk => by omega))
      have B100 : Below w89.heap.size w89 w100 := b98.trans (b100.mono b98.size)
      rintro _ rfl
      have B101 : Below w89.heap.size w89 w100.drew := below_drew B100
      have E101 : Below w18.heap.size w18 w100.drew := B89.trans (B101.mono B89.size)
      have c101 := c18.below E101
      have t101 := t18.below E101
      have o101 := o18.below E101
      have q101 := q89.below B101
      have p101 : Row5 w100.drew w98.heap.size 87 (getA m x.tn) := q100.below (below_drew (Below.refl _ _))
      have s87 := b87.size
      have s89 := B89.size
      have s98 := b98.size
      have n87 := (far w87.heap.size (by omega)).2
      have n98 := (far w98.heap.size (by omega)).2
      have hwi := (getA_low c18.p.inv x.tn).e2
      obtain ⟨so, go, hro, hgfo, ho1, ho2⟩ := c101.o.rf
      refine ⟨_, t101.c0, _, o101.at 2, (getA m x.tn).ms, (getA m x.tn).mp, (getA m x.tn).sr, (getA m x.tn).wr, (getA m x.tn).wi, q101.at, _, t101.c1, _, o101.at 2, (getA m x.tn).ms, (getA m x.tn).mp, (getA m x.tn).sr, (getA m x.tn).wr, (getA m x.tn).wi, p101.at, ?_⟩
      refine (C48 c101.o.bk c101.o.inv x.tn (getA m x.tn)).mono ?_
      rintro _ w117 ⟨_, rfl, rfl, h117, g117⟩
      have p117 := p101.keep g117 n98
      have o117 := o101.keep g117 (far _ (by omega)).2
      have t117 := t101.keep g117 (far _ (by omega)).2
      have rf117 := hro.keep g117 (fun k hk e => ho2 (by rw [← show k = O.b from e]; exact hk))
      refine ⟨_, rfl, p117.at, o117.at 2, t117.c1, ?_⟩
      refine (C67 rf117 x.tn (getA m x.tn) (by omega)).mono ?_
      rintro _ w119 ⟨_, rfl, rfl, h119⟩
      exact ⟨_, rfl, by simp, finO _ _ _ _ _ _ (g18.trans (Gr.below E101 (S := fun _ => False)) (fun _ _ h => h)) c101 hro hgfo ho1 ho2 h117 g117 h119 (inv_put c101.o.inv _ _ hwi) (putM_len _ _ _)⟩
  refine ⟨_, o18.c0, fun _ => ?_, fun _ => ⟨fun _ => ?_, fun _ => ⟨fun _ => j1 _, fun _ => j1 _⟩⟩⟩
  · rintro _ rfl
    refine ⟨_, rd18.c0, _, od18.at 2, _, od18.at 4, _, od18.at 5, _, rd18.c1, _, od18.at 2, _, od18.at 4, _, od18.at 5, (C29 d18.p.bk d18.p.inv x.tn x.n x.m).mono ?_⟩
    rintro _ w57 ⟨_, rfl, rfl, h57, g57⟩
    have o57 := od18.keep g57 (far _ (by omega)).1
    have r57 := rd18.keep g57 (far _ (by omega)).1
    have rf57 := hrf.keep g57 (fun k hk e => hn2 (by rw [← show k = P.b from e]; exact hk))
    refine ⟨_, rfl, o57.at 5, o57.at 4, o57.at 2, r57.c1, (C64 rf57 x.tn x.n x.m (by omega)).mono ?_⟩
    rintro _ w59 ⟨_, rfl, rfl, h59⟩
    exact ⟨_, rfl, by simp, finP _ _ _ _ _ _ gd18 d18 hrf hgf hn1 hn2 h57 g57 h59 (inv_put d18.p.inv _ _ (by simp)) (putM_len _ _ _)⟩
  · rintro _ rfl
    refine ⟨_, rd18.c0, _, od18.at 2, _, rd18.c1, _, od18.at 2, (C47 d18.p.bk x.tn).mono ?_⟩
    rintro _ w57 ⟨_, rfl, rfl, h57, g57⟩
    have o57 := od18.keep g57 (far _ (by omega)).1
    have r57 := rd18.keep g57 (far _ (by omega)).1
    have rf57 := hrf.keep g57 (fun k hk e => hn2 (by rw [← show k = P.b from e]; exact hk))
    refine ⟨_, rfl, o57.at 2, r57.c1, (C65 rf57 x.tn (by omega)).mono ?_⟩
    rintro _ w59 ⟨_, rfl, rfl, h59⟩
    exact ⟨_, rfl, _, eql_bool _ _ _ _ _, by simp, finP _ _ _ _ _ _ gd18 d18 hrf hgf hn1 hn2 h57 g57 h59 (inv_del d18.p.inv _) (del_len _ _)⟩
theorem C51k {x : QOp} {w18 w34 : World} (h : Q2 W gB cs P O n w18) (hb : Below w18.heap.size w18 w34) (hr : Row11 w34 w18.heap.size x) (hn : n ≤ 900000) (hx : x.w ≤ 9223372036854775807 ∧ x.a.wi ≤ 9223372036854775807) :
    Calls Try.prog 51 #[.agg #[.pointer (some ⟨P.q, 0, none⟩), .pointer (some ⟨P.r, 0, none⟩)], .agg #[.int .i64 x.kd, .int .i64 x.on, .string x.tn, .int .i64 x.w, .int .i64 x.n, .int .i64 x.m, .int .i64 x.a.ms, .int .i64 x.a.mp, .int .i64 x.a.sr, .int .i64 x.a.wr, .int .i64 x.a.wi], .agg #[.pointer (some ⟨O.q, 0, none⟩), .pointer (some ⟨O.r, 0, none⟩)]] w34
      (fun e w1 => ∃ (r0 : Bool), e = .returned (.bool r0 : Value) ∧ (r0 = true ∧ Q2 W gB cs P O (n + 1) w1 ∧ Row11 w1 w18.heap.size x)) := by
  obtain ⟨m, m', f, f', c⟩ := h
  refine (C51 (c.below hb) hn hx).mono ?_
  rintro _ w1 ⟨_, rfl, rfl, h1, hg⟩
  refine ⟨_, rfl, rfl, h1, hr.keep hg (fun hk => ?_)⟩
  rcases hk with hk | hk
  · have := c.p.lt _ hk; omega
  · have := c.o.lt _ hk; omega
end
end Go.Proofs.Ythhcaaellhdkiaa
