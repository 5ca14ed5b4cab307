/- The step laws once more, over goals whose head is a structure: no tactic unfolds them by itself. -/
import Derived.Test.YtjgijifankaglaaSX
namespace Go.Proofs.Ytjgijifankaglaa.SX
open Go Go.RowKit
set_option linter.unusedVariables false

structure WL (P : Program) (ops : Array Oper) (Q : Exit → Act → World → Prop) (l : List Oper) (n : Nat) (f : Fr) (w : World) : Prop where
  out : wpList P ops Q l (mk n f) w
structure WC (P : Program) (c : Code) (Q : Exit → Act → World → Prop) (n : Nat) (f : Fr) (w : World) : Prop where
  out : c.wp P Q (mk n f) w
structure WQ (P : Program) (ops : Array Oper) (Qq : Act → Prop) (l : List Oper) (n : Nat) (f : Fr) (w : World) : Prop where
  out : wpQuiet P ops (DC w) Qq l (mk n f)
/-- The end of a piece. -/
structure WE (Q : Exit → Act → World → Prop) (e : Exit) (n : Nat) (f : Fr) (w : World) : Prop where
  out : Q e (mk n f) w

section
variable {P : Program} {ops : Array Oper} {rest : List Oper} {o : Oper} {Q : Exit → Act → World → Prop} {n d : Nat} {f : Fr} {v : Value} {w w' : World}

theorem y_k (v : Value) (w' : World) (hg : o.guard = none) (hd : o.dst = some d) (hk : Nat.blt d n = true) (hrun : (execOp (evn n f) o).run P w = .ok (.value v) w') (h : WL P ops Q rest n (upd f d v) w') : WL P ops Q (o :: rest) n f w := ⟨stk v w' hg hd hk hrun h.out⟩
theorem y_kn (v : Value) (w' : World) (hg : o.guard = none) (hd : o.dst = none) (hrun : (execOp (evn n f) o).run P w = .ok (.value v) w') (h : WL P ops Q rest n f w') : WL P ops Q (o :: rest) n f w := ⟨stkn v w' hg hd hrun h.out⟩
theorem y_v {s : Sem Value} (hg : o.guard = none) (hd : o.dst = some d) (hk : Nat.blt d n = true) (hs : execOp (evn n f) o = (s >>= fun v => pure (Next.value v))) (hrun : s.run P w = .ok v w') (h : WL P ops Q rest n (upd f d v) w') : WL P ops Q (o :: rest) n f w := ⟨stv hg hd hk hs hrun h.out⟩
theorem y_vn {s : Sem Value} (hg : o.guard = none) (hd : o.dst = none) (hs : execOp (evn n f) o = (s >>= fun v => pure (Next.value v))) (hrun : s.run P w = .ok v w') (h : WL P ops Q rest n f w') : WL P ops Q (o :: rest) n f w := ⟨stvn hg hd hs hrun h.out⟩
theorem y_u {s : Sem Unit} (hg : o.guard = none) (hd : o.dst = none) (hs : execOp (evn n f) o = (s >>= fun _ => pure Next.skip)) (hrun : s.run P w = .ok () w') (h : WL P ops Q rest n f w') : WL P ops Q (o :: rest) n f w := ⟨stu hg hd hs hrun h.out⟩
theorem y_call {g : FuncId} {args : Array Value} (hg : o.guard = none) (hd : o.dst = some d) (hk : Nat.blt d n = true) (hrun : (execOp (evn n f) o).run P w = .ok (.enter g args) w)
    (h : Calls P g args w fun e w' => ∃ v, e = .returned v ∧ WL P ops Q rest n (upd f d v) w') : WL P ops Q (o :: rest) n f w :=
  ⟨st_call hg hd hk hrun (h.mono fun _ _ ⟨v, h1, h2⟩ => ⟨v, h1, h2.out⟩)⟩
theorem y_calln {g : FuncId} {args : Array Value} (hg : o.guard = none) (hd : o.dst = none) (hrun : (execOp (evn n f) o).run P w = .ok (.enter g args) w)
    (h : Calls P g args w fun e w' => ∃ v, e = .returned v ∧ WL P ops Q rest n f w') : WL P ops Q (o :: rest) n f w :=
  ⟨st_calln hg hd hrun (h.mono fun _ _ ⟨v, h1, h2⟩ => ⟨v, h1, h2.out⟩)⟩
theorem y_nil (h : WE Q .normal n f w) : WL P ops Q [] n f w := ⟨h.out⟩
theorem y_gyes {dst : Option Nat} {op : Op} {ty : TypeId} {pos : String} {after : Array Edge} {j : Nat} {b : Bool} {e : Nat}
    (hj : (ops[j]?).bind (·.dst) = some e) (he : Nat.blt e n = true) (hf : f e = .bool b)
    (h : WL P ops Q (⟨dst, op, ty, pos, after, none⟩ :: rest) n f w) : WL P ops Q (⟨dst, op, ty, pos, after, some (j, b)⟩ :: rest) n f w := ⟨st_gyes hj he hf h.out⟩
theorem y_gno {op : Op} {ty : TypeId} {pos : String} {after : Array Edge} {j : Nat} {b : Bool} {e : Nat}
    (hj : (ops[j]?).bind (·.dst) = some e) (he : Nat.blt e n = true) (hf : f e = .bool (!b)) (hd : Nat.blt d n = true)
    (h : WL P ops Q rest n (upd f d undef) w) : WL P ops Q (⟨some d, op, ty, pos, after, some (j, b)⟩ :: rest) n f w := ⟨st_gno hj he hf hd h.out⟩
theorem y_gnon {op : Op} {ty : TypeId} {pos : String} {after : Array Edge} {j : Nat} {b : Bool} {e : Nat}
    (hj : (ops[j]?).bind (·.dst) = some e) (he : Nat.blt e n = true) (hf : f e = .bool (!b))
    (h : WL P ops Q rest n f w) : WL P ops Q (⟨none, op, ty, pos, after, some (j, b)⟩ :: rest) n f w := ⟨st_gnon hj he hf h.out⟩
theorem y_gud {op : Op} {ty : TypeId} {pos : String} {after : Array Edge} {j : Nat} {b : Bool} {e : Nat}
    (hj : (ops[j]?).bind (·.dst) = some e) (he : Nat.blt e n = true) (hf : f e = undef) (hd : Nat.blt d n = true)
    (h : WL P ops Q rest n (upd f d undef) w) : WL P ops Q (⟨some d, op, ty, pos, after, some (j, b)⟩ :: rest) n f w := ⟨st_gud hj he hf hd h.out⟩
theorem y_gudn {op : Op} {ty : TypeId} {pos : String} {after : Array Edge} {j : Nat} {b : Bool} {e : Nat}
    (hj : (ops[j]?).bind (·.dst) = some e) (he : Nat.blt e n = true) (hf : f e = undef)
    (h : WL P ops Q rest n f w) : WL P ops Q (⟨none, op, ty, pos, after, some (j, b)⟩ :: rest) n f w := ⟨st_gudn hj he hf h.out⟩
theorem y_frame {g : Fr} (e : g = f) (h : WL P ops Q rest n g w) : WL P ops Q rest n f w := e ▸ h
theorem y_fork (b : Bool) (h1 : b = true → WL P ops Q rest n f w) (h2 : b = false → WL P ops Q rest n f w) : WL P ops Q rest n f w := by
  cases b
  · exact h2 rfl
  · exact h1 rfl
theorem y_region {id : Nat} {l : List Oper} (h : WL P l.toArray Q l n f w) : WC P (.region id l.toArray false) Q n f w := ⟨st_region h.out⟩
theorem y_cond {c : Operand} {x y : Code} (b : Bool) (hk : okx n c = true) (hc : ev f c = .bool b) (h1 : b = true → WC P x Q n f w) (h2 : b = false → WC P y Q n f w) : WC P (.cond c x y) Q n f w := ⟨st_cond hk hc (fun h => (h1 h).out) (fun h => (h2 h).out)⟩
theorem y_cond_t {c : Operand} {x y : Code} (hk : okx n c = true) (hc : ev f c = .bool true) (h : WC P x Q n f w) : WC P (.cond c x y) Q n f w := ⟨wp_cond_true_mk hk hc h.out⟩
theorem y_cond_f {c : Operand} {x y : Code} (hk : okx n c = true) (hc : ev f c = .bool false) (h : WC P y Q n f w) : WC P (.cond c x y) Q n f w := ⟨wp_cond_false_mk hk hc h.out⟩
/-- What stands behind a piece, as a letter. -/
structure WK (K : Act → World → Prop) (n : Nat) (f : Fr) (w : World) : Prop where
  out : K (mk n f) w
theorem y_seq {x y : Code} (h : ∀ K : Act → World → Prop, (∀ f w, WC P y Q n f w → WK K n f w) → WC P x (Exit.then K Q) n f w) : WC P (.seq x y) Q n f w :=
  ⟨wp_seq ((h (fun a w => y.wp P Q a w) (fun f w hh => ⟨hh.out⟩)).out)⟩
theorem y_then {K : Act → World → Prop} (h : WK K n f w) : WE (Exit.then K Q) .normal n f w := ⟨h.out⟩
theorem y_block {id : Nat} {c : Code} (h : WC P c (Exit.inBlock id Q) n f w) : WC P (.block id c) Q n f w := ⟨wp_block h.out⟩
theorem y_exit {id : Nat} (h : WE Q (.exit id) n f w) : WC P (.exit id) Q n f w := ⟨wp_exit h.out⟩
theorem y_skip (h : WE Q .normal n f w) : WC P .skip Q n f w := ⟨wp_skip h.out⟩
theorem y_ret (h : WE Q .ret n f w) : WC P .ret Q n f w := ⟨wp_ret h.out⟩
theorem e_then_x {K : Act → World → Prop} {id : Nat} (h : WE Q (.exit id) n f w) : WE (Exit.then K Q) (.exit id) n f w := ⟨h.out⟩
theorem e_then_r {K : Act → World → Prop} (h : WE Q .ret n f w) : WE (Exit.then K Q) .ret n f w := ⟨h.out⟩
theorem e_block_n {id : Nat} (h : WE Q .normal n f w) : WE (Exit.inBlock id Q) .normal n f w := ⟨h.out⟩
theorem e_block_r {id : Nat} (h : WE Q .ret n f w) : WE (Exit.inBlock id Q) .ret n f w := ⟨h.out⟩
theorem e_block_x {id : Nat} (h : WE Q .normal n f w) : WE (Exit.inBlock id Q) (.exit id) n f w := ⟨by simp only [Exit.inBlock, if_true]; exact h.out⟩
theorem e_block_y {id id' : Nat} (hne : Nat.beq id' id = false) (h : WE Q (.exit id') n f w) : WE (Exit.inBlock id Q) (.exit id') n f w :=
  ⟨by have : id' ≠ id := fun e => by subst e; simp at hne
      simp only [Exit.inBlock, if_neg this]; exact h.out⟩
theorem y_loop {S : Type} {c : Code} {body : (S → World → Prop) → S → World → Prop} (fr : S → Fr → Fr) (s0 : S) (hf : fr s0 f = f) (h : kLoop body s0 w)
    (hstep : ∀ (K : Act → World → Prop) (next : S → World → Prop), (∀ s f w, next s w → fr s f = f → WK K n f w) → ∀ s j w, body next s w → WC P c (Exit.then K Q) n (fr s j) w) : WC P (.loop c) Q n f w :=
  ⟨st_loop fr s0 hf h fun next s j w hb => (hstep (fun a' w' => ∃ s' j', a' = mk n (fr s' j') ∧ next s' w') next (fun s f w hn e => ⟨⟨s, f, by rw [e], hn⟩⟩) s j w hb).out⟩
theorem y_enter {fid : FuncId} {fn : Func} {c : Code} {args : List Value} {R : Ending → World → Prop} (hf : P.funcs[fid]? = some fn) (hb : fn.body = some c) (hn : fn.ntmps = n) (hl : Nat.ble args.length n = true)
    (h : ∀ Q, (∀ f w v, (results fn (mk n f).tmps).run P w = .ok v w → R (.returned v) w → WE Q .ret n f w ∧ WE Q .normal n f w) → WC P c Q n (ini args) w) : Calls P fid args.toArray w R :=
  sx_enter hf hb hn hl (h _ fun f w v h1 h2 => ⟨⟨⟨rfl, v, h1, h2⟩⟩, ⟨⟨rfl, v, h1, h2⟩⟩⟩).out
theorem y_atf {K : Act → World → Prop} {g : Fr} (e : g = f) (h : WK K n g w) : WK K n f w := e ▸ h

/-- What stands in a result. -/
def resSem (tmps : Array Value) : ResultVar → Sem Value
  | .tmp t => pure (tmps.getD t undef)
  | .cell a t => do loadVar t (← asAddr (tmps.getD a undef))
theorem rs_tmp {t : Nat} (hk : Nat.blt t n = true) (hv : f t = v) : (resSem (mk n f).tmps (.tmp t)).run P w = .ok v w := by
  simp only [resSem, get_mk hk, hv]; rfl
theorem rs_cell {a : Nat} {T : TypeId} {ad : Addr} (hk : Nat.blt a n = true) (ha : f a = .pointer (some ad)) (hl : (Instr.loadAt T (.pointer (some ad))).run P w = .ok v w) : (resSem (mk n f).tmps (.cell a T)).run P w = .ok v w := by
  simp only [resSem, get_mk hk, ha]
  simpa [asAddr, Instr.loadAt, Instr.sureAddr] using hl
theorem results_eq (fn : Func) (tmps : Array Value) : results fn tmps = (do let vs ← fn.results.mapM (resSem tmps); pure (if h : vs.size = 1 then vs[0] else .tuple vs)) := by
  unfold results
  congr 1
theorem rs1 {fn : Func} {r : ResultVar} (h : fn.results = #[r]) (h1 : (resSem (mk n f).tmps r).run P w = .ok v w) : (results fn (mk n f).tmps).run P w = .ok v w := by
  rw [results_eq, h]; simp [h1]
theorem rs2 {fn : Func} {r s : ResultVar} {v1 v2 : Value} (h : fn.results = #[r, s]) (h1 : (resSem (mk n f).tmps r).run P w = .ok v1 w) (h2 : (resSem (mk n f).tmps s).run P w = .ok v2 w) : (results fn (mk n f).tmps).run P w = .ok (.tuple #[v1, v2]) w := by
  rw [results_eq, h]; simp [h1, h2]
theorem rs3 {fn : Func} {r s t : ResultVar} {v1 v2 v3 : Value} (h : fn.results = #[r, s, t]) (h1 : (resSem (mk n f).tmps r).run P w = .ok v1 w) (h2 : (resSem (mk n f).tmps s).run P w = .ok v2 w) (h3 : (resSem (mk n f).tmps t).run P w = .ok v3 w) : (results fn (mk n f).tmps).run P w = .ok (.tuple #[v1, v2, v3]) w := by
  rw [results_eq, h]; simp [h1, h2, h3]
theorem q_k {Qq : Act → Prop} (v : Value) (hg : o.guard = none) (hd : o.dst = some d) (hk : Nat.blt d n = true) (hrun : ∀ m, (execOp (evn n f) o).run P (w.drewN m) = .ok (.value v) (w.drewN m)) (h : WQ P ops Qq rest n (upd f d v) w) : WQ P ops Qq (o :: rest) n f w := ⟨qtk v hg hd hk hrun h.out⟩
theorem q_v {Qq : Act → Prop} {s : Sem Value} (hg : o.guard = none) (hd : o.dst = some d) (hk : Nat.blt d n = true) (hs : execOp (evn n f) o = (s >>= fun v => pure (Next.value v))) (hrun : ∀ m, s.run P (w.drewN m) = .ok v (w.drewN m)) (h : WQ P ops Qq rest n (upd f d v) w) : WQ P ops Qq (o :: rest) n f w := ⟨qtv hg hd hk hs hrun h.out⟩
theorem q_call {Qq : Act → Prop} {g : FuncId} {args : Array Value} (v : Value) (hg : o.guard = none) (hd : o.dst = some d) (hk : Nat.blt d n = true) (hrun : ∀ m, (execOp (evn n f) o).run P (w.drewN m) = .ok (.enter g args) (w.drewN m))
    (hc : ∀ m, Calls P g args (w.drewN m) fun e w' => e = .returned v ∧ ∃ m', w' = w.drewN m') (h : WQ P ops Qq rest n (upd f d v) w) : WQ P ops Qq (o :: rest) n f w := by
  refine ⟨?_⟩
  have := h.out
  unfold wpQuiet
  rw [if_pos (by simp [Region.wanted, hg])]
  refine ⟨v, ?_, by rw [hd, put_mk hk]; exact h.out⟩
  rintro _ ⟨m, rfl⟩
  unfold Oper.quietAt
  rw [eval_eq, hrun m]
  exact ⟨rfl, hc m⟩
theorem q_nil {Qq : Act → Prop} (h : Qq (mk n f)) : WQ P ops Qq [] n f w := ⟨h⟩
theorem q_gyes {Qq : Act → Prop} {dst : Option Nat} {op : Op} {ty : TypeId} {pos : String} {after : Array Edge} {j : Nat} {b : Bool} {e : Nat}
    (hj : (ops[j]?).bind (·.dst) = some e) (he : Nat.blt e n = true) (hf : f e = .bool b)
    (h : WQ P ops Qq (⟨dst, op, ty, pos, after, none⟩ :: rest) n f w) : WQ P ops Qq (⟨dst, op, ty, pos, after, some (j, b)⟩ :: rest) n f w := ⟨qt_gyes hj he hf h.out⟩
theorem q_gno {Qq : Act → Prop} {op : Op} {ty : TypeId} {pos : String} {after : Array Edge} {j : Nat} {b : Bool} {e : Nat}
    (hj : (ops[j]?).bind (·.dst) = some e) (he : Nat.blt e n = true) (hf : f e = .bool (!b)) (hd : Nat.blt d n = true)
    (h : WQ P ops Qq rest n (upd f d undef) w) : WQ P ops Qq (⟨some d, op, ty, pos, after, some (j, b)⟩ :: rest) n f w := ⟨qt_gno hj he hf hd h.out⟩
theorem q_gud {Qq : Act → Prop} {op : Op} {ty : TypeId} {pos : String} {after : Array Edge} {j : Nat} {b : Bool} {e : Nat}
    (hj : (ops[j]?).bind (·.dst) = some e) (he : Nat.blt e n = true) (hf : f e = undef) (hd : Nat.blt d n = true)
    (h : WQ P ops Qq rest n (upd f d undef) w) : WQ P ops Qq (⟨some d, op, ty, pos, after, some (j, b)⟩ :: rest) n f w := by
  refine ⟨?_⟩
  unfold wpQuiet
  rw [if_neg (by simp [Region.wanted, yielded, hj, get?_mk he, hf, undef]), put_mk hd]
  exact h.out
theorem q_frame {Qq : Act → Prop} {g : Fr} (e : g = f) (h : WQ P ops Qq rest n g w) : WQ P ops Qq rest n f w := e ▸ h
theorem q_fork {Qq : Act → Prop} (b : Bool) (h1 : b = true → WQ P ops Qq rest n f w) (h2 : b = false → WQ P ops Qq rest n f w) : WQ P ops Qq rest n f w := by
  cases b
  · exact h2 rfl
  · exact h1 rfl
theorem q_region {id : Nat} {l : List Oper} (hm : P.follows .mixedOrders = true) (hB : Region.lexB .any l.toArray = true)
    (h : ∀ Qq : Act → Prop, (∀ f, (∀ m, WE Q .normal n f (w.drewN m)) → Qq (mk n f)) → WQ P l.toArray Qq l n f w) : WC P (.region id l.toArray true) Q n f w :=
  ⟨st_draw hm hB (h (fun a' => ∀ w', (∃ m, w' = w.drewN m) → Q .normal a' w') (fun f hh => by rintro _ ⟨m, rfl⟩; exact (hh m).out)).out⟩
end
end Go.Proofs.Ytjgijifankaglaa.SX
