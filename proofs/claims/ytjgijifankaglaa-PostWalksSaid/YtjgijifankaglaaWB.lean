/- A range over a function: the law for iterators that write rows of their own, over frames that are functions. -/
import Derived.Test.YtjgijifankaglaaWA
import Derived.Test.YtjgijifankaglaaGR
import Derived.Test.YtjgijifankaglaaProg
namespace Go.Proofs.Ytjgijifankaglaa
open Go Go.RowKit Go.Proofs.Ytjgijifankaglaa.SX
set_option linter.unusedVariables false

abbrev Pr := Int × Int
def enc2 (x : Pr) : Array Value := #[.int .u32 x.1, .int .i64 x.2]
/-- what an iterator's value does: it hands over the list M, one by one, and writes new rows alone -/
def Iter (w : World) (kb : Nat) (v : Value) (M : List Pr) : Prop :=
  ∃ gf lb, v = .func (.func gf) #[] lb ∧ (∀ args w, (callFunc gf args).run Try.prog w = .ok (.enter gf args) w) ∧
    ∀ (l : Nat) (J Jx : List Pr → World → Prop) (W1 : World), w.heap.size ≤ W1.heap.size →
      (∀ pre W W', J pre W → Gr (fun k => W1.heap.size ≤ k) W W' → J pre W') → (∀ pre W W', Jx pre W → Gr (fun k => W1.heap.size ≤ k) W W' → Jx pre W') →
      (∀ pre W, J pre W → Gr (fun k => k = kb ∨ w.heap.size ≤ k ∧ k < W1.heap.size) w W) →
      (∀ pre x W, (pre ++ [x]) <+: M → J pre W → YieldAt Fence.wide 8 Try.prog l (enc2 x) W (fun e W' => (e = .returned (.bool true) ∧ J (pre ++ [x]) W' ∧ Gr (fun k => k < W1.heap.size) W W') ∨ (e = .returned (.bool false) ∧ Jx (pre ++ [x]) W'))) →
      J [] W1 → Calls Try.prog gf (#[.func (.yield l) #[] #[]] ++ lb) W1 (fun e W' => (∃ v, e = .returned v) ∧ (J M W' ∨ ∃ pre, Jx pre W'))
/-- which code a piece is left by -/
def leftBy : Exit → Option Code
  | .ret => some .ret
  | .exit id => some (.exit id)
  | _ => none
/-- what lies above a height stands -/
def Keeps (B : Nat) (W W' : World) : Prop := W.heap.size ≤ W'.heap.size ∧ ∀ k, B ≤ k → k < W.heap.size → W'.heap[k]? = W.heap[k]?
def bp (B : Nat) (I Ix : List Pr → World → Prop) (jx : Code) (xs : List Pr) (W : World) (e : Exit) (_ : Act) (W' : World) : Prop :=
  (e = .normal ∧ Keeps B W W' ∧ I xs W') ∨ (leftBy e = some jx ∧ Keeps B W W' ∧ Ix xs W')
theorem gr_put {S : Nat → Prop} {W : World} {l : Nat} {o : Obj} (h : S l) : Gr S W (W.putObj l o) := by
  have := grownBy_putObj' W l o
  exact ⟨this.os, this.tape, this.output, this.size, fun k hk hn => this.block k hk (fun e => by cases e; exact hn h)⟩
theorem rf_law {w : World} {n : Nat} {f : Fr} {ds : List Deferred} {g : Operand} {p1 p2 : Nat} {assign body : Code} {Q : Exit → Act → World → Prop} {kb : Nat} {v : Value} {M : List Pr}
    (hit : Iter w kb v M) (hgv : evn n f g = v) (hp1 : Nat.blt p1 n = true) (hp2 : Nat.blt p2 n = true) (hkb : kb < w.heap.size) (jx : Code) (I Ix : List Pr → World → Prop)
    (hI : ∀ pre W W', I pre W → Gr (fun k => w.heap.size ≤ k) W W' → I pre W') (hIx : ∀ pre W W', Ix pre W → Gr (fun k => w.heap.size ≤ k) W W' → Ix pre W')
    (hIg : ∀ pre W, I pre W → Gr (fun k => k = kb) w W) (h0 : I [] w) (f1 : Pr → Fr)
    (hassign : ∀ (l : Nat) (x : Pr) (W : World) (K : Act → World → Prop), K (mk n (f1 x)) W → assign.wpIn (Fence.wide.inRound l) 8 Try.prog (Exit.then K (fun _ _ _ => False)) (mk n (upd (upd f p1 (.int .u32 x.1)) p2 (.int .i64 x.2))) W)
    (hbody : ∀ (l : Nat) (pre : List Pr) (x : Pr) (W : World), (pre ++ [x]) <+: M → I pre W → body.wpIn (Fence.wide.inRound l) 8 Try.prog (bp w.heap.size I Ix jx (pre ++ [x]) W) (mk n (f1 x)) W)
    (hdone : ∀ (D : Nat) (W : World), w.heap.size ≤ D → I M W → W.heap[D]? = some (.deferred (some [])) → Q .normal (mkd n f ({ target := .collected D, args := #[] } :: ds)) W)
    (hstop : ∀ (D : Nat) (pre : List Pr) (W : World), w.heap.size ≤ D → Ix pre W → W.heap[D]? = some (.deferred (some [])) → jx.wpIn Fence.wide 10 Try.prog Q (mkd n f ({ target := .collected D, args := #[] } :: ds)) W) :
    (Code.rangeFunc g #[p1, p2] assign body).wpIn Fence.wide 10 Try.prog Q (mkd n f ds) w := by
  obtain ⟨gf, lb, hv, hent, hcon⟩ := hit
  refine wpIn_rangeFunc fun fn hfn => ?_
  obtain ⟨rec, hrec⟩ : ∃ rec : LoopState → Option Code → Loop, rec = fun st pe => { state := st, pending := pe, fn, tmps := (mkd n f ds).tmps, params := #[p1, p2], assign, body, defers := w.heap.size } := ⟨_, rfl⟩
  obtain ⟨W1, hW1⟩ : ∃ W1, (w.alloc (.deferred (some []))).alloc (.loop (rec .ready none)) = W1 := ⟨_, rfl⟩
  have hz1 : W1.heap.size = w.heap.size + 2 := by rw [← hW1]; simp
  have hb1 : Below w.heap.size w W1 := by rw [← hW1]; exact ((Below.refl _ w).alloc (Nat.le_refl _) _).alloc (by simp) _
  have hL1 : W1.heap[w.heap.size + 1]? = some (.loop (rec .ready none)) := by
    rw [← hW1]; have := World.alloc_heap_new (w.alloc (.deferred (some []))) (.loop (rec .ready none)); rwa [World.size_alloc] at this
  have hK1 : W1.heap[w.heap.size]? = some (.deferred (some [])) := by
    rw [← hW1]; exact (Below.heap_alloc _ _ _ (by simp)).trans (World.alloc_heap_new w _)
  have hI1 : I [] W1 := hI [] w W1 h0 (Gr.below hb1)
  refine ⟨w.heap.size + 1, [{ target := .collected w.heap.size, args := #[] }], W1, { target := .fn (.func gf) lb, args := #[.func (.yield (w.heap.size + 1)) #[] #[]] }, W1, gf,
    #[.func (.yield (w.heap.size + 1)) #[] #[]] ++ lb, W1, ?_, ?_, (fun f' _ => trivial), ?_, (fun h => nomatch h), ?_⟩
  · rw [← hW1, hrec]; exact run_enterLoop_outer _ _ _ _ _
  · have hg : (mkd n f ds).eval g = .func (.func gf) #[] lb := by rw [eval_mkd, hgv, hv]
    simp only [resolve, hg]
    simp [go_sem]
  · simp [invoke, go_sem, hent]
  · refine callsIn_wide.2 ((hcon (w.heap.size + 1)
      (fun pre W => I pre W ∧ W.heap[w.heap.size + 1]? = some (.loop (rec .ready none)) ∧ W.heap[w.heap.size]? = some (.deferred (some [])))
      (fun pre W => Ix pre W ∧ W.heap[w.heap.size + 1]? = some (.loop (rec .done (some jx))) ∧ W.heap[w.heap.size]? = some (.deferred (some []))) W1 (by omega) ?_ ?_ ?_ ?_ ⟨hI1, hL1, hK1⟩).mono ?_)
    · rintro pre W W' ⟨h1, h2, h3⟩ q
      have hl := (Array.getElem?_eq_some_iff.1 h2).1
      exact ⟨hI pre W W' h1 (q.mono (fun k hk => by omega)), (q.block _ hl (by omega)).trans h2, (q.block _ (by omega) (by omega)).trans h3⟩
    · rintro pre W W' ⟨h1, h2, h3⟩ q
      have hl := (Array.getElem?_eq_some_iff.1 h2).1
      exact ⟨hIx pre W W' h1 (q.mono (fun k hk => by omega)), (q.block _ hl (by omega)).trans h2, (q.block _ (by omega) (by omega)).trans h3⟩
    · rintro pre W ⟨h1, h2, h3⟩
      exact (hIg pre W h1).mono (fun k hk => .inl hk)
    · rintro pre x W hpre ⟨hi, hl, hk⟩
      have hlt : w.heap.size + 1 < W.heap.size := (Array.getElem?_eq_some_iff.1 hl).1
      have hy := run_yield (P := Try.prog) (args := enc2 x) hl (by rw [hrec]; rfl)
      rw [hrec] at hy
      have htm : ((#[p1, p2].zip (enc2 x)).foldl (fun tmps (t, a) => tmps.setIfInBounds t a) (mkd n f ds).tmps) = (mk n (upd (upd f p1 (.int .u32 x.1)) p2 (.int .i64 x.2))).tmps := by
        have e1 := put_mk (n := n) (f := f) (d := p1) (v := .int .u32 x.1) hp1
        have e2 := put_mk (n := n) (f := upd f p1 (.int .u32 x.1)) (d := p2) (v := .int .i64 x.2) hp2
        rw [← e2, ← e1]
        simp [enc2, mkd, Act.put]
      refine ⟨fn, _, assign, body, hy, ?_⟩
      have hact : ({ tmps := (#[p1, p2].zip (enc2 x)).foldl (fun tmps (t, a) => tmps.setIfInBounds t a) (mkd n f ds).tmps, defers := [] } : Act) = mk n (upd (upd f p1 (.int .u32 x.1)) p2 (.int .i64 x.2)) := by rw [htm]; rfl
      refine roundIn_of_wpIn hfn ?_
      rw [hact]
      refine hassign _ x W _ ⟨_, run_beginRound hl (by rw [hrec]), ?_⟩
      have hl2 : (W.putObj (w.heap.size + 1) (.loop { rec .ready none with state := .busy })).heap[w.heap.size + 1]? = some (.loop { rec .ready none with state := .busy }) := World.putObj_heap_same hlt
      have hk2 : (W.putObj (w.heap.size + 1) (.loop { rec .ready none with state := .busy })).heap[w.heap.size]? = some (.deferred (some [])) := (World.putObj_heap_other (by omega)).trans hk
      have q1 : Gr (fun k => w.heap.size ≤ k ∧ k < w.heap.size + 2) W (W.putObj (w.heap.size + 1) (.loop { rec .ready none with state := .busy })) := gr_put (by omega)
      have hi2 := hI pre W _ hi (q1.mono (fun k hk => hk.1))
      generalize W.putObj (w.heap.size + 1) (.loop { rec .ready none with state := .busy }) = W2 at *
      refine wpIn_mono (hbody _ pre x W2 hpre hi2) ?_
      have hlt2 : w.heap.size + 1 < W2.heap.size := (Array.getElem?_eq_some_iff.1 hl2).1
      have fin : ∀ (jump : Option Code) (W3 : World), Keeps w.heap.size W2 W3 →
          (Instr.endRound (w.heap.size + 1) jump).run Try.prog W3 = .ok (.bool jump.isNone) (W3.putObj (w.heap.size + 1) (.loop (rec (if jump.isNone then .ready else .done) jump))) ∧
          (W3.putObj (w.heap.size + 1) (.loop (rec (if jump.isNone then .ready else .done) jump))).heap[w.heap.size + 1]? = some (.loop (rec (if jump.isNone then .ready else .done) jump)) ∧
          (W3.putObj (w.heap.size + 1) (.loop (rec (if jump.isNone then .ready else .done) jump))).heap[w.heap.size]? = some (.deferred (some [])) := fun jump W3 hk3 => by
        have hl3 := (hk3.2 _ (by omega) hlt2).trans hl2
        have := run_endRound (P := Try.prog) jump hl3
        rw [hrec] at this ⊢
        exact ⟨this, World.putObj_heap_same (by have := hk3.1; omega), (World.putObj_heap_other (by omega)).trans ((hk3.2 _ (by omega) (by omega)).trans hk2)⟩
      rintro e a3 W3 (⟨rfl, hkp, hi3⟩ | ⟨hle, hkp, hi3⟩)
      · obtain ⟨hr, hl4, hk4⟩ := fin none W3 hkp
        have q2 : Gr (fun k => w.heap.size ≤ k ∧ k < w.heap.size + 2) W3 (W3.putObj (w.heap.size + 1) (.loop (rec (if (none : Option Code).isNone then .ready else .done) none))) := gr_put (by omega)
        refine ⟨_, _, hr, .inl ⟨rfl, ⟨hI _ _ _ hi3 (q2.mono (fun k hk => hk.1)), hl4, hk4⟩, ?_⟩⟩
        have z2 := q1.size
        have g3 := hIg _ _ hi3
        have g2 := hIg _ _ hi2
        have g0 := hIg _ _ hi
        refine ⟨q2.os.trans (g3.os.trans g0.os.symm), q2.tape.trans (g3.tape.trans g0.tape.symm), q2.output.trans (g3.output.trans g0.output.symm), Nat.le_trans z2 (Nat.le_trans hkp.1 q2.size), fun k hk hn => ?_⟩
        rw [q2.block k (by have := hkp.1; omega) (by omega), hkp.2 k (by omega) (by omega), q1.block k hk (by omega)]
      · cases e with
        | ret =>
          cases hle
          obtain ⟨hr, hl4, hk4⟩ := fin (some .ret) W3 hkp
          exact ⟨_, _, hr, .inr ⟨rfl, hIx _ _ _ hi3 (gr_put (by omega)), hl4, hk4⟩⟩
        | exit id =>
          cases hle
          obtain ⟨hr, hl4, hk4⟩ := fin (some (.exit id)) W3 hkp
          exact ⟨_, _, hr, .inr ⟨rfl, hIx _ _ _ hi3 (gr_put (by omega)), hl4, hk4⟩⟩
        | normal => cases hle
        | goto t => cases hle
        | panic ch => cases hle
        | outgrown => cases hle
    · rintro e W2 ⟨⟨v, rfl⟩, (⟨hi, hl, hk⟩ | ⟨pre, hi, hl, hk⟩)⟩
      · exact ⟨none, _, by have := run_endLoop (P := Try.prog) hl (by rw [hrec]; simp); rw [hrec] at this; exact this, hdone _ _ (Nat.le_refl _) (hI _ _ _ hi (gr_put (by omega))) ((World.putObj_heap_other (by omega)).trans hk)⟩
      · exact ⟨some jx, _, by have := run_endLoop (P := Try.prog) hl (by rw [hrec]; simp); rw [hrec] at this; exact this, hstop _ pre _ (Nat.le_refl _) (hIx _ _ _ hi (gr_put (by omega))) ((World.putObj_heap_other (by omega)).trans hk)⟩
end Go.Proofs.Ytjgijifankaglaa
