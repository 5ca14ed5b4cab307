/- The document's hash object; four hashes beside one another. -/
import Derived.Test.YtjgijifankaglaaHG
import Derived.Test.YtjgijifankaglaaGS8
namespace Go.Proofs.Ytjgijifankaglaa
open Go Go.RowKit Go.Proofs.Ytjgijifankaglaa.SX
set_option linter.unusedVariables false

/-- the document's hash object: all bytes so far -/
def Rst (w : World) (g : Nat) (fp : Nat → Prop) (bs : List Int) : Prop := fp g ∧ ∃ s : Sl, w.heap[g]? = some (.cells #[.slice s.a s.n s.c] 100 (0, 0)) ∧ (∀ k, s.blk = some k → fp k ∧ k ≠ g) ∧ Own B8 5 0 w s bs
theorem Rst.gr {w w' : World} {g : Nat} {fp S : Nat → Prop} {bs : List Int} (H : Rst w g fp bs) (q : Gr S w w') (h : ∀ k, fp k → ¬ S k) : Rst w' g fp bs := by
  obtain ⟨hg, s, h1, h2, h3⟩ := H
  exact ⟨hg, s, q.blk h1 (h g hg), h2, q.own h3 (fun k hk => h k (h2 k hk).1)⟩
theorem Rst.wide {w : World} {g : Nat} {fp fq : Nat → Prop} {bs : List Int} (H : Rst w g fp bs) (h : ∀ k, fp k → fq k) : Rst w g fq bs := by
  obtain ⟨hg, s, h1, h2, h3⟩ := H
  exact ⟨h g hg, s, h1, fun k hk => ⟨h k (h2 k hk).1, (h2 k hk).2⟩, h3⟩
theorem Hst.wide {w : World} {g : Nat} {fp fq : Nat → Prop} {bs : List Int} (H : Hst w g fp bs) (h : ∀ k, fp k → fq k) : Hst w g fq bs := by
  rcases H with ⟨rest, H⟩ | ⟨rfl, hg, H⟩
  · exact .inl ⟨rest, H.wide h⟩
  · exact .inr ⟨rfl, h g hg, H⟩
theorem C46 (w : World) : Calls Try.prog 46 #[] w (fun e w1 => ∃ (r0 : Option Addr), e = .returned (.pointer r0) ∧ (r0 = some ⟨w.heap.size, 0, none⟩ ∧ Rst w1 w.heap.size (fun k => k = w.heap.size) [] ∧ Below w.heap.size w w1 ∧ w.heap.size < w1.heap.size)) := by
  refine F46_sound (fun r0 w1 => r0 = some ⟨w.heap.size, 0, none⟩ ∧ Rst w1 w.heap.size (fun k => k = w.heap.size) [] ∧ Below w.heap.size w w1 ∧ w.heap.size < w1.heap.size) w ?_
  unfold F46
  intro w1 e
  have h : w1.heap[w.heap.size]? = some (.cells #[.slice none 0 0] 100 (0, 0)) := by rw [e]; exact heap_alloc_new w _
  exact ⟨rfl, ⟨rfl, ⟨none, 0, 0⟩, h, (fun k hk => nomatch hk), Own.nil⟩, by rw [e]; exact below_row _ _, row_lt h⟩
theorem C48 {w : World} {g : Nat} {fp : Nat → Prop} {bs cs : List Int} {b : Sl} (H : Rst w g fp bs) (hr : Rd B8 w b cs) (hl : bs.length + cs.length ≤ 100000000000) :
    Calls Try.prog 48 #[.pointer (some ⟨g, 0, none⟩), .slice b.a b.n b.c] w (fun e w1 => e = .returned (.tuple #[]) ∧ (Rst w1 g (fun k => fp k ∨ w.heap.size ≤ k) (bs ++ cs) ∧ Gr fp w w1)) := by
  obtain ⟨hg, s, h1, h2, h3⟩ := H
  refine F48_sound (some ⟨g, 0, none⟩) b (fun w1 => Rst w1 g (fun k => fp k ∨ w.heap.size ≤ k) (bs ++ cs) ∧ Gr fp w w1) w ?_
  unfold F48
  have hgl := row_lt h1
  obtain ⟨s2, w2, r2, A⟩ := ap_many (P := Try.prog) (ty := 33) ty22 b8one h3 hr (Nat.zero_le _) (by omega)
  have q : Gr (fun k => s.blk = some k) w w2 := Gr.row A.grown (fun b hb => hb)
  have h4 := q.blk h1 (fun hk => (h2 g hk).2 rfl)
  refine ⟨_, rfl, s, by rw [row_get h1]; rfl, s2, w2, r2, _, rfl, row_has h4 (by show 0 < 1; omega), ?_⟩
  intro w8 e
  have h5 := row_set h4 (j := 0) (.slice s2.a s2.n s2.c)
  have q2 := gr_set w2 ⟨g, 0, none⟩ (.slice s2.a s2.n s2.c)
  rw [← e] at h5 q2
  have fr2 : ∀ k, s2.blk = some k → (fp k ∨ w.heap.size ≤ k) ∧ k ≠ g := by
    intro k hk
    rcases A.blk with hb | ⟨c, hb, hc⟩
    · exact ⟨.inl (h2 k (hb ▸ hk)).1, (h2 k (hb ▸ hk)).2⟩
    · rw [hb] at hk; cases hk
      exact ⟨.inr hc, by omega⟩
  refine ⟨⟨.inl hg, s2, h5, fr2, q2.own A.own (fun k hk => (fr2 k hk).2)⟩, ?_⟩
  exact (q.mono (fun k hk => (h2 k hk).1)).trans (q2.mono (fun k hk => (hk ▸ hg : fp k))) (fun i _ hi => hi)
theorem C50 {w : World} {g : Nat} {fp : Nat → Prop} {bs : List Int} (H : Rst w g fp bs) (hb : bys bs) (hl : bs.length ≤ 2000000) :
    Calls Try.prog 50 #[.pointer (some ⟨g, 0, none⟩)] w (fun e w1 => ∃ (r0 : Value), e = .returned r0 ∧ (r0 = .agg (digV (ofS KR bs)) ∧ Below w.heap.size w w1)) := by
  obtain ⟨hg, s, h1, h2, h3⟩ := H
  refine F50_sound (some ⟨g, 0, none⟩) (fun r0 w1 => r0 = .agg (digV (ofS KR bs)) ∧ Below w.heap.size w w1) w ?_
  unfold F50
  intro w2 e
  have b2 : Below w.heap.size w w2 := by rw [e]; exact below_row _ _
  obtain ⟨z, hz, hzs⟩ : ∃ z, w2.heap[w.heap.size]? = some (.cells z 50 (0, 0)) ∧ z.size = 32 := ⟨_, by rw [e]; exact heap_alloc_new w _, by kernel_rfl⟩
  clear e
  have hzl := row_lt hz
  have h4 := (Gr.below (S := fun _ => False) b2).blk h1 (fun h => h)
  refine ⟨_, rfl, s, by rw [row_get h4]; rfl, ?_⟩
  refine (C44 (h3.rd.below b2) hb hl).mono ?_
  rintro _ w6 ⟨_, rfl, rfl, b6⟩
  have hz := (Gr.below (S := fun _ => False) b6).blk hz (fun h => h)
  have B := b2.trans (b6.mono b2.size)
  obtain ⟨w8, r8, h8, q8⟩ := store_all (P := Try.prog) (T := 50) (k := 32) (vs := digV (ofS KR bs)) hz sizes50.2 (digV_size _) hzs (digV_one _)
  exact ⟨_, rfl, w8, r8, _, load_row h8 sizes50 (digV_size _), rfl, B.trans (q8.toBelow B.size (fun k hk => by (try dsimp only at hk); omega))⟩
/-- four hashes, the program's and the document's; which block is whose -/
structure S4 (w0 w : World) (g1 g2 g3 g4 : Nat) (c : Nat → Nat) (a b a3 b4 : List Int) : Prop where
  h : Hst w g1 (fun k => c k = 1) a
  o : Hst w g2 (fun k => c k = 2) b
  r : Rst w g3 (fun k => c k = 3) a3
  s : Rst w g4 (fun k => c k = 4) b4
  lt : ∀ k, c k ≠ 0 → w0.heap.size ≤ k ∧ k < w.heap.size
  bel : Below w0.heap.size w0 w
section
variable {w0 w w' : World} {g1 g2 g3 g4 : Nat} {c : Nat → Nat} {a b a3 b4 cs : List Int} {x : Sl}
theorem S4.keep {S : Nat → Prop} (H : S4 w0 w g1 g2 g3 g4 c a b a3 b4) (q : Gr S w w') (h1 : ∀ k, S k → w0.heap.size ≤ k) (h2 : ∀ k, c k ≠ 0 → ¬ S k) : S4 w0 w' g1 g2 g3 g4 c a b a3 b4 :=
  ⟨H.h.gr q (fun k hk => h2 k (by omega)), H.o.gr q (fun k hk => h2 k (by omega)), H.r.gr q (fun k hk => h2 k (by omega)), H.s.gr q (fun k hk => h2 k (by omega)), fun k hk => ⟨(H.lt k hk).1, Nat.lt_of_lt_of_le (H.lt k hk).2 q.size⟩, H.bel.trans (q.toBelow H.bel.size h1)⟩
theorem S4.below (H : S4 w0 w g1 g2 g3 g4 c a b a3 b4) (q : Below w.heap.size w w') : S4 w0 w' g1 g2 g3 g4 c a b a3 b4 := H.keep (Gr.below (S := fun _ => False) q) (fun _ h => h.elim) (fun _ _ h => h)
open Classical in
noncomputable def col (w : World) (c : Nat → Nat) (f : Nat → Prop) (i : Nat) : Nat → Nat := fun k => if k < w.heap.size then c k else if f k then i else 0
theorem col_old {f : Nat → Prop} {i k : Nat} (h : k < w.heap.size) : col w c f i k = c k := by unfold col; rw [if_pos h]
theorem col_new {f : Nat → Prop} {i k : Nat} (h : ¬ k < w.heap.size) (hf : f k) : col w c f i k = i := by unfold col; rw [if_neg h, if_pos hf]
theorem col_ne {f : Nat → Prop} {i k : Nat} (h : col w c f i k ≠ 0) : c k ≠ 0 ∧ k < w.heap.size ∨ w.heap.size ≤ k ∧ f k := by
  unfold col at h
  split at h
  · exact .inl ⟨h, by omega⟩
  · split at h
    · rename_i h1 h2
      exact .inr ⟨by omega, h2⟩
    · exact absurd rfl h
/-- what a change of one of them leaves -/
theorem S4.turn {f : Nat → Prop} {i : Nat} (H : S4 w0 w g1 g2 g3 g4 c a b a3 b4) (q : Gr (fun k => c k = i) w w') (hi : i ≠ 0) (hf : ∀ k, f k → k < w'.heap.size) :
    (∀ k, col w c f i k ≠ 0 → w0.heap.size ≤ k ∧ k < w'.heap.size) ∧ Below w0.heap.size w0 w' ∧ (∀ j, j ≠ i → ∀ k, c k = j → j ≠ 0 → col w c f i k = j) ∧ (∀ j, j ≠ i → ∀ k, c k = j → ¬ c k = i) := by
  have z := H.bel.size
  refine ⟨fun k hk => ?_, H.bel.trans (q.toBelow z (fun k hk => (H.lt k (by omega)).1)), fun j hj k hk h0 => ?_, fun j hj k hk h => hj (hk.symm.trans h)⟩
  · rcases col_ne hk with ⟨h1, h2⟩ | ⟨h1, h2⟩
    · exact ⟨(H.lt k h1).1, Nat.lt_of_lt_of_le h2 q.size⟩
    · exact ⟨by omega, hf k h2⟩
  · rw [col_old (H.lt k (by omega)).2]; exact hk
theorem S4.wide {f : Nat → Prop} {i : Nat} (H : S4 w0 w g1 g2 g3 g4 c a b a3 b4) (hf : ∀ k, f k → c k = i ∨ w.heap.size ≤ k) (hi : i ≠ 0) : ∀ k, f k → col w c f i k = i := by
  intro k hk
  by_cases h : k < w.heap.size
  · rw [col_old h]
    rcases hf k hk with h1 | h1
    · exact h1
    · omega
  · exact col_new h hk
theorem S4.wr1 (H : S4 w0 w g1 g2 g3 g4 c a b a3 b4) (hr : Rd B8 w x cs) (hx : ∀ p, x.a = some p → 0 < x.n → c p.block = 0) (hl : a.length + cs.length ≤ 100000000000) :
    Calls Try.prog 47 #[.pointer (some ⟨g1, 0, none⟩), .slice x.a x.n x.c] w (fun e w1 => e = .returned (.tuple #[]) ∧ ∃ c', S4 w0 w1 g1 g2 g3 g4 c' (a ++ cs) b a3 b4 ∧ Gr (fun k => c k = 1) w w1 ∧ ∀ k, c' k ≠ 0 → c k ≠ 0 ∨ w.heap.size ≤ k) := by
  refine (write_ho ⟨H.h, fun k hk => (H.lt k (by omega)).2⟩ hr (fun p hp hn h => by have := hx p hp hn; omega) hl).mono ?_
  rintro _ w1 ⟨rfl, fq, hfq, HO, q⟩
  obtain ⟨t1, t2, t3, t4⟩ := H.turn (f := fq) q (by omega) HO.2
  refine ⟨rfl, col w c fq 1, ⟨HO.1.wide (H.wide hfq (by omega)), (H.o.gr q (t4 2 (by omega))).wide (fun k hk => t3 2 (by omega) k hk (by omega)), (H.r.gr q (t4 3 (by omega))).wide (fun k hk => t3 3 (by omega) k hk (by omega)), (H.s.gr q (t4 4 (by omega))).wide (fun k hk => t3 4 (by omega) k hk (by omega)), t1, t2⟩, q, fun k hk => ?_⟩
  rcases col_ne hk with ⟨h1, _⟩ | ⟨h1, _⟩
  · exact .inl h1
  · exact .inr h1
theorem S4.wr2 (H : S4 w0 w g1 g2 g3 g4 c a b a3 b4) (hr : Rd B8 w x cs) (hx : ∀ p, x.a = some p → 0 < x.n → c p.block = 0) (hl : b.length + cs.length ≤ 100000000000) :
    Calls Try.prog 47 #[.pointer (some ⟨g2, 0, none⟩), .slice x.a x.n x.c] w (fun e w1 => e = .returned (.tuple #[]) ∧ ∃ c', S4 w0 w1 g1 g2 g3 g4 c' a (b ++ cs) a3 b4 ∧ Gr (fun k => c k = 2) w w1 ∧ ∀ k, c' k ≠ 0 → c k ≠ 0 ∨ w.heap.size ≤ k) := by
  refine (write_ho ⟨H.o, fun k hk => (H.lt k (by omega)).2⟩ hr (fun p hp hn h => by have := hx p hp hn; omega) hl).mono ?_
  rintro _ w1 ⟨rfl, fq, hfq, HO, q⟩
  obtain ⟨t1, t2, t3, t4⟩ := H.turn (f := fq) q (by omega) HO.2
  refine ⟨rfl, col w c fq 2, ⟨(H.h.gr q (t4 1 (by omega))).wide (fun k hk => t3 1 (by omega) k hk (by omega)), HO.1.wide (H.wide hfq (by omega)), (H.r.gr q (t4 3 (by omega))).wide (fun k hk => t3 3 (by omega) k hk (by omega)), (H.s.gr q (t4 4 (by omega))).wide (fun k hk => t3 4 (by omega) k hk (by omega)), t1, t2⟩, q, fun k hk => ?_⟩
  rcases col_ne hk with ⟨h1, _⟩ | ⟨h1, _⟩
  · exact .inl h1
  · exact .inr h1
theorem S4.wr34 (H : S4 w0 w g1 g2 g3 g4 c a b a3 b4) {y : Sl} {ds : List Int} (hr : Rd B8 w0 x cs) (hy : Rd B8 w0 y ds) (hl : a3.length + cs.length ≤ 100000000000) (hl2 : b4.length + ds.length ≤ 100000000000) :
    Calls Try.prog 48 #[.pointer (some ⟨g3, 0, none⟩), .slice x.a x.n x.c] w (fun e w1 => e = .returned (.tuple #[]) ∧ Calls Try.prog 48 #[.pointer (some ⟨g4, 0, none⟩), .slice y.a y.n y.c] w1 (fun e w2 => e = .returned (.tuple #[]) ∧ ∃ c' : Nat → Nat, S4 w0 w2 g1 g2 g3 g4 c' a b (a3 ++ cs) (b4 ++ ds))) := by
  refine (C48 H.r (hr.below H.bel) hl).mono ?_
  rintro _ w1 ⟨rfl, R, q⟩
  refine ⟨rfl, ?_⟩
  have z1 := q.size
  have R1 : Rst w1 g3 (fun k => (c k = 3 ∨ w.heap.size ≤ k) ∧ k < w1.heap.size) (a3 ++ cs) := by
    obtain ⟨hg, s, h1, h2, h3⟩ := R
    exact ⟨⟨hg, row_lt h1⟩, s, h1, fun k hk => ⟨⟨(h2 k hk).1, (h3.blk_ge k hk).2⟩, (h2 k hk).2⟩, h3⟩
  obtain ⟨t1, t2, t3, t4⟩ := H.turn (f := fun k => (c k = 3 ∨ w.heap.size ≤ k) ∧ k < w1.heap.size) q (by omega) (fun k hk => hk.2)
  have R2 := R1.wide (H.wide (fun k hk => hk.1) (by omega))
  have o2 := (H.o.gr q (t4 2 (by omega))).wide (fun k hk => t3 2 (by omega) k hk (by omega))
  have h2 := (H.h.gr q (t4 1 (by omega))).wide (fun k hk => t3 1 (by omega) k hk (by omega))
  have s2 := (H.s.gr q (t4 4 (by omega))).wide (fun k hk => t3 4 (by omega) k hk (by omega))
  generalize col w c (fun k => (c k = 3 ∨ w.heap.size ≤ k) ∧ k < w1.heap.size) 3 = d at *
  clear R R1 t3 t4
  refine (C48 s2 (hy.below t2) hl2).mono ?_
  rintro _ w2 ⟨rfl, R, q2⟩
  refine ⟨rfl, ?_⟩
  have R1 : Rst w2 g4 (fun k => (d k = 4 ∨ w1.heap.size ≤ k) ∧ k < w2.heap.size) (b4 ++ ds) := by
    obtain ⟨hg, s, h1, h2, h3⟩ := R
    exact ⟨⟨hg, row_lt h1⟩, s, h1, fun k hk => ⟨⟨(h2 k hk).1, (h3.blk_ge k hk).2⟩, (h2 k hk).2⟩, h3⟩
  have old : ∀ i k, d k = i → i ≠ 0 → col w1 d (fun k => (d k = 4 ∨ w1.heap.size ≤ k) ∧ k < w2.heap.size) 4 k = i := fun i k hk hi => by rw [col_old (t1 k (by omega)).2]; exact hk
  refine ⟨col w1 d (fun k => (d k = 4 ∨ w1.heap.size ≤ k) ∧ k < w2.heap.size) 4, ⟨(h2.gr q2 (fun k hk h => by omega)).wide (fun k hk => old 1 k hk (by omega)), (o2.gr q2 (fun k hk h => by omega)).wide (fun k hk => old 2 k hk (by omega)), (R2.gr q2 (fun k hk h => by omega)).wide (fun k hk => old 3 k hk (by omega)), R1.wide (fun k hk => ?_), fun k hk => ?_, t2.trans (q2.toBelow t2.size (fun k hk => (t1 k (by omega)).1))⟩⟩
  · by_cases h : k < w1.heap.size
    · rw [col_old h]
      rcases hk.1 with h1 | h1
      · exact h1
      · omega
    · exact col_new h hk
  · have z2 := q2.size
    have zz := t2.size
    rcases col_ne hk with ⟨h1, h3⟩ | ⟨h1, h3⟩
    · exact ⟨(t1 k h1).1, by omega⟩
    · exact ⟨by omega, h3.2⟩
theorem S4.sm1 (H : S4 w0 w g1 g2 g3 g4 c a b a3 b4) (hl : a.length ≤ 100000000000) :
    Calls Try.prog 49 #[.pointer (some ⟨g1, 0, none⟩)] w (fun e w1 => ∃ (r0 : Value), e = .returned r0 ∧ (r0 = .agg (digV (ofS KR a)) ∧ S4 w0 w1 g1 g2 g3 g4 c a b a3 b4)) := by
  refine (sum_ho ⟨H.h, fun k hk => (H.lt k (by omega)).2⟩ hl).mono ?_
  rintro _ w1 ⟨r, rfl, hr, HO, q⟩
  exact ⟨r, rfl, hr, HO.1, H.o.gr q (fun k hk h => by omega), H.r.gr q (fun k hk h => by omega), H.s.gr q (fun k hk h => by omega), fun k hk => ⟨(H.lt k hk).1, Nat.lt_of_lt_of_le (H.lt k hk).2 q.size⟩, H.bel.trans (q.toBelow H.bel.size (fun k hk => (H.lt k (by omega)).1))⟩
theorem S4.sm2 (H : S4 w0 w g1 g2 g3 g4 c a b a3 b4) (hl : b.length ≤ 100000000000) :
    Calls Try.prog 49 #[.pointer (some ⟨g2, 0, none⟩)] w (fun e w1 => ∃ (r0 : Value), e = .returned r0 ∧ (r0 = .agg (digV (ofS KR b)) ∧ S4 w0 w1 g1 g2 g3 g4 c a b a3 b4)) := by
  refine (sum_ho ⟨H.o, fun k hk => (H.lt k (by omega)).2⟩ hl).mono ?_
  rintro _ w1 ⟨r, rfl, hr, HO, q⟩
  exact ⟨r, rfl, hr, H.h.gr q (fun k hk h => by omega), HO.1, H.r.gr q (fun k hk h => by omega), H.s.gr q (fun k hk h => by omega), fun k hk => ⟨(H.lt k hk).1, Nat.lt_of_lt_of_le (H.lt k hk).2 q.size⟩, H.bel.trans (q.toBelow H.bel.size (fun k hk => (H.lt k (by omega)).1))⟩
theorem S4.sm3 (H : S4 w0 w g1 g2 g3 g4 c a b a3 b4) (hb : bys a3) (hl : a3.length ≤ 2000000) :
    Calls Try.prog 50 #[.pointer (some ⟨g3, 0, none⟩)] w (fun e w1 => ∃ (r0 : Value), e = .returned r0 ∧ (r0 = .agg (digV (ofS KR a3)) ∧ S4 w0 w1 g1 g2 g3 g4 c a b a3 b4)) := by
  refine (C50 H.r hb hl).mono ?_
  rintro _ w1 ⟨r, rfl, hr, q⟩
  exact ⟨r, rfl, hr, H.below q⟩
theorem S4.sm4 (H : S4 w0 w g1 g2 g3 g4 c a b a3 b4) (hb : bys b4) (hl : b4.length ≤ 2000000) :
    Calls Try.prog 50 #[.pointer (some ⟨g4, 0, none⟩)] w (fun e w1 => ∃ (r0 : Value), e = .returned r0 ∧ (r0 = .agg (digV (ofS KR b4)) ∧ S4 w0 w1 g1 g2 g3 g4 c a b a3 b4)) := by
  refine (C50 H.s hb hl).mono ?_
  rintro _ w1 ⟨r, rfl, hr, q⟩
  exact ⟨r, rfl, hr, H.below q⟩
end
end Go.Proofs.Ytjgijifankaglaa
