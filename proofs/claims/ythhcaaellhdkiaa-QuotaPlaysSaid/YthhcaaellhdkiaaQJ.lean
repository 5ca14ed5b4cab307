/- A book and the document's beside it: what is told of a tenant, and a step. -/
import Derived.Test.YthhcaaellhdkiaaQI
import Derived.Test.YthhcaaellhdkiaaGQc
namespace Go.Proofs.Ythhcaaellhdkiaa
open Go Go.RowKit Go.Proofs.Ythhcaaellhdkiaa.SX
set_option linter.unusedVariables false

structure PK where
  q : Nat
  b : Nat
  r : Nat
structure Pq (w : World) (P : PK) (m : Accs) (f : Nat → Prop) : Prop where
  bk : Bk w P.q P.b m
  rf : ∃ s g, Rf w P.r s m g ∧ (∀ k, g k → f k) ∧ ¬ g P.q ∧ ¬ g P.b
  inv : Inv m
  fq : f P.q
  fb : f P.b
  lt : ∀ k, f k → k < w.heap.size
section
variable {W w w' w1 w2 : World} {P O : PK} {m m' : Accs} {f S : Nat → Prop}
theorem Pq.keep (h : Pq w P m f) (hg : Gr S w w') (hn : ∀ k, f k → ¬ S k) : Pq w' P m f := by
  obtain ⟨s, g, hr, hgf, h1, h2⟩ := h.rf
  exact ⟨h.bk.keep hg (hn _ h.fq) (hn _ h.fb), ⟨s, g, hr.keep hg (fun k hk => hn k (hgf k hk)), hgf, h1, h2⟩, h.inv, h.fq, h.fb, fun k hk => Nat.lt_of_lt_of_le (h.lt k hk) hg.size⟩
theorem Pq.below (h : Pq w P m f) (hb : Below w.heap.size w w') : Pq w' P m f := h.keep (S := fun _ => False) (Gr.below hb) (fun _ _ h => h)
/-- both books were called -/
theorem Pq.after (h : Pq w P m f) {g : Nat → Prop} {s : Sl} (hr0 : Rf w P.r s m g) (hgf : ∀ k, g k → f k) (h1 : ¬ g P.q) (h2 : ¬ g P.b) (hb : Bk w1 P.q P.b m') (hg1 : Gr (fun k => k = P.b) w w1) (hr : RfR w1 P.r m' g w2) (hi : Inv m') :
    ∃ f', Pq w2 P m' f' ∧ Gr f w w2 ∧ ∀ k, f' k → f k ∨ w.heap.size ≤ k := by
  obtain ⟨s', g', hr', hg2, hs⟩ := hr
  have e1 := hg1.size
  have e2 := hg2.size
  have hlt := h.bk.lt
  refine ⟨fun k => f k ∨ (w.heap.size ≤ k ∧ k < w2.heap.size), ⟨hb.keep hg2 h1 h2, ⟨s', g', hr', fun k hk => ?_, fun hk => ?_, fun hk => ?_⟩, hi, .inl h.fq, .inl h.fb, fun k hk => ?_⟩, (hg1.mono (fun k hk => by rw [show k = P.b from hk]; exact h.fb)).trans hg2 (fun i _ hk => hgf i hk), fun k hk => ?_⟩
  · rcases hs k hk with h3 | h3
    · exact .inl (hgf k h3)
    · exact .inr ⟨by omega, hr'.lt k hk⟩
  · rcases hs _ hk with h3 | h3
    · exact h1 h3
    · omega
  · rcases hs _ hk with h3 | h3
    · exact h2 h3
    · omega
  · rcases hk with hk | hk
    · have := h.lt k hk; omega
    · exact hk.2
  · rcases hk with hk | hk
    · exact .inl hk
    · exact .inr hk.1
end
def Row2 (w : World) (g : Nat) (a b : Option Addr) : Prop := w.heap[g]? = some (.cells #[.pointer a, .pointer b] 98 (0, 0))
section
variable {w w' : World} {g : Nat} {a b : Option Addr} {S : Nat → Prop}
theorem Row2.new (w : World) (a b : Option Addr) : Row2 (w.alloc (.cells #[.pointer a, .pointer b] 98)) w.heap.size a b := heap_alloc_new w _
theorem Row2.c0 (h : Row2 w g a b) : w.cell? ⟨g, 0, none⟩ = some (.pointer a) := by rw [row_get h]; rfl
theorem Row2.c1 (h : Row2 w g a b) : w.cell? ((⟨g, 0, none⟩ : Addr).add 1) = some (.pointer b) := by rw [add_lit, row_get h]; rfl
theorem Row2.keep (h : Row2 w g a b) (hg : Gr S w w') (hn : ¬ S g) : Row2 w' g a b := hg.blk h hn
theorem Row2.below (h : Row2 w g a b) (hb : Below w.heap.size w w') : Row2 w' g a b := h.keep (S := fun _ => False) (Gr.below hb) (fun h => h)
theorem Row11.below {x : QOp} (h : Row11 w g x) (hb : Below w.heap.size w w') : Row11 w' g x := h.keep (S := fun _ => False) (Gr.below hb) (fun h => h)
theorem Row5.below {e : Nat} {x : Acc} (h : Row5 w g e x) (hb : Below w.heap.size w w') : Row5 w' g e x := h.keep (S := fun _ => False) (Gr.below hb) (fun h => h)
end
theorem eql_bool (w : World) (x y : Operand) (a b : Bool) : (do eqGuard .eql 4 x y (.bool a : Value) (.bool b : Value); binOp .eql 4 (.bool a : Value) (.bool b : Value) : Sem Value).run Try.prog w = .ok (.bool (a == b) : Value) w := by
  have h : (Op.equal 4 (.bool a) (.bool b)).run Try.prog w = .ok (a == b) w := eqIn_bool 9999 w a b
  simp [eqGuard, binOp, h]
theorem eql87_same (w : World) (x y : Operand) (a : Acc) : (do eqGuard .eql 87 x y a.v a.v; binOp .eql 87 a.v a.v : Sem Value).run Try.prog w = .ok (.bool true) w := by
  have h := neq87_same w x y a
  rw [Sem.run_bind, run_eqGuard_agg w .neq 87 x y _ _ (by kernel_rfl), Result.andThen_ok, run_neq_struct] at h
  rw [Sem.run_bind, run_eqGuard_agg w .eql 87 x y _ _ (by kernel_rfl), Result.andThen_ok, run_eql_struct]
  revert h
  generalize (Op.equalIn 10000 87 a.v a.v).run Try.prog w = r
  intro h
  cases r with
  | ok b w' =>
    simp only [Result.andThen_ok, Result.ok.injEq, Value.bool.injEq] at h ⊢
    exact ⟨by cases b <;> simp_all, h.2⟩
  | halt x w' => simp [Result.andThen] at h
theorem C52 {w : World} {P : PK} {m : Accs} {f : Nat → Prop} (h : Pq w P m f) (t : ByteArray) (n : Int) (hl : m.length ≤ 1000000) :
    Calls Try.prog 52 #[.agg #[.pointer (some ⟨P.q, 0, none⟩), .pointer (some ⟨P.r, 0, none⟩)], .string t, .int .i64 n] w (fun e w1 => ∃ (r0 : Bool), e = .returned (.bool r0 : Value) ∧ (r0 = true ∧ Below w.heap.size w w1)) := by
  refine F52_sound _ _ t n (fun r0 w1 => r0 = true ∧ Below w.heap.size w w1) w ?_
  unfold F52
  intro w5 hw5
  have r5 : Row2 w5 w.heap.size (some ⟨P.q, 0, none⟩) (some ⟨P.r, 0, none⟩) := by rw [hw5]; exact Row2.new w _ _
  have b5 : Below w.heap.size w w5 := by rw [hw5]; exact (Below.refl _ _).alloc (Nat.le_refl _) _
  clear hw5
  have h5 := h.below b5
  refine ⟨_, r5.c0, (C69 h5.bk t).mono ?_⟩
  rintro _ w10 ⟨_, _, _, rfl, rfl, rfl, rfl, b10⟩
  have h10 := h5.below b10
  have r10 := r5.below b10
  have B10 := b5.trans (b10.mono b5.size)
  obtain ⟨s, g, hr10, _⟩ := h10.rf
  refine ⟨_, _, _, rfl, _, r10.c1, (C70 hr10 t hl).mono ?_⟩
  rintro _ w15 ⟨_, _, _, rfl, rfl, rfl, rfl, b15⟩
  have h15 := h10.below b15
  have r15 := r10.below b15
  have B15 := B10.trans (b15.mono B10.size)
  refine ⟨_, _, _, rfl, _, r15.c0, (C30 h15.bk h15.inv t n).mono ?_⟩
  rintro _ w19 ⟨_, _, rfl, rfl, rfl, b19⟩
  have h19 := h15.below b19
  have r19 := r15.below b19
  have B19 := B15.trans (b19.mono B15.size)
  obtain ⟨s, g, hr19, _⟩ := h19.rf
  refine ⟨_, _, rfl, _, r19.c1, (C71 hr19 h19.inv t n hl).mono ?_⟩
  rintro _ w23 ⟨_, _, rfl, rfl, rfl, b23⟩
  have h23 := h19.below b23
  have r23 := r19.below b23
  have B23 := B19.trans (b23.mono B19.size)
  refine ⟨_, _, rfl, _, r23.c0, (C49 h23.bk t).mono ?_⟩
  rintro _ w31 ⟨_, _, _, _, _, _, rfl, rfl, rfl, rfl, rfl, rfl, rfl, b31⟩
  have h31 := h23.below b31
  have r31 := r23.below b31
  have B31 := B23.trans (b31.mono B23.size)
  refine ⟨_, _, _, _, _, _, rfl, ?_⟩
  intro w32 hw32
  have q32 : Row5 w32 w31.heap.size 87 .zero := by rw [hw32]; exact Row5.new w31 .zero 87
  have b32 : Below w31.heap.size w31 w32 := by rw [hw32]; exact (Below.refl _ _).alloc (Nat.le_refl _) _
  clear hw32
  refine ⟨q32.hass, ?_⟩
  intro w33 hw33
  obtain ⟨q33, g33⟩ : Row5 w33 w31.heap.size 87 (getA m t) ∧ Gr (fun k => k = w31.heap.size) w32 w33 := by rw [hw33]; exact q32.sets (getA m t)
  clear hw33
  have b33 := b32.trans (g33.toBelow b32.size (fun k hk => by omega))
  have h33 := h31.below b33
  have r33 := r31.below b33
  have B33 := B31.trans (b33.mono B31.size)
  obtain ⟨s, g, hr33, _⟩ := h33.rf
  refine ⟨_, r33.c1, (C68 hr33 t hl).mono ?_⟩
  rintro _ w41 ⟨_, _, _, _, _, _, rfl, rfl, rfl, rfl, rfl, rfl, rfl, b41⟩
  have q41 := q33.below b41
  have B41 := B33.trans (b41.mono B33.size)
  refine ⟨_, _, _, _, _, _, rfl, ?_⟩
  intro w42 hw42
  have q42 : Row5 w42 w41.heap.size 87 .zero := by rw [hw42]; exact Row5.new w41 .zero 87
  have b42 : Below w41.heap.size w41 w42 := by rw [hw42]; exact (Below.refl _ _).alloc (Nat.le_refl _) _
  clear hw42
  refine ⟨q42.hass, ?_⟩
  intro w43 hw43
  obtain ⟨q43, g43⟩ : Row5 w43 w41.heap.size 87 (getA m t) ∧ Gr (fun k => k = w41.heap.size) w42 w43 := by rw [hw43]; exact q42.sets (getA m t)
  clear hw43
  have b43 := b42.trans (g43.toBelow b42.size (fun k hk => by omega))
  have q41' := q41.below b43
  have B43 := B41.trans (b43.mono B41.size)
  refine ⟨fun _ => ⟨fun _ => ⟨_, eql_bool w43 _ _ _ _, fun _ => ⟨fun _ => ⟨fun _ => ?_, fun h => absurd rfl h⟩, fun h => absurd rfl h⟩, fun h => by simp at h⟩, fun h => absurd rfl h⟩, fun h => absurd rfl h⟩
  refine ⟨(getA m t).ms, (getA m t).mp, (getA m t).sr, (getA m t).wr, (getA m t).wi, q41'.at, (getA m t).ms, (getA m t).mp, (getA m t).sr, (getA m t).wr, (getA m t).wi, q43.at, true, eql87_same w43 _ _ (getA m t), fun _ => ⟨_, eql_bool w43 _ _ _ _, ?_⟩, (fun h => nomatch h)⟩
  unfold F52_j1
  exact ⟨by simp, B43⟩
end Go.Proofs.Ythhcaaellhdkiaa
