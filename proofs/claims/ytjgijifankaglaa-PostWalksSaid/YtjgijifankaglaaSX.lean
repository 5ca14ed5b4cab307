/- Step laws over frames that are functions: one law for each kind of operation, loop and branch. -/
import Derived.WalkKit
import Derived.Below
import Derived.Deep.Draws
import Derived.Deep.QuietTactic
namespace Go.Proofs.Ytjgijifankaglaa.SX
open Go Go.RowKit
set_option linter.unusedVariables false
set_option linter.unusedSimpArgs false

abbrev Fr := Nat → Value
def mk (n : Nat) (f : Fr) : Act := { tmps := Array.ofFn (n := n) fun i => f i.val, defers := [] }
def upd (f : Fr) (i : Nat) (v : Value) : Fr := fun j => cond (Nat.beq j i) v (f j)
def ini (args : List Value) : Fr := fun i => args.getD i undef
def ev (f : Fr) : Operand → Value
  | .tmp t => f t
  | .const v => v
  | .global g => .pointer (some ⟨g, 0, none⟩)
  | .func g => .func (.func g) #[] #[]
def okx (n : Nat) : Operand → Bool
  | .tmp t => Nat.blt t n
  | _ => true

structure Sl where
  a : Option Addr
  n : Nat
  c : Nat
@[reducible] def Sl.v (s : Sl) : Value := .slice s.a s.n s.c

theorem lt_of_blt {a b : Nat} (h : Nat.blt a b = true) : a < b := by
  simp only [Nat.blt] at h
  exact Nat.le_of_ble_eq_true h

theorem get_mk {n : Nat} {f : Fr} {t : Nat} (h : Nat.blt t n = true) : (mk n f).tmps.getD t undef = f t := by
  have := lt_of_blt h
  simp [mk, this]

theorem eval_mk {n : Nat} {f : Fr} {x : Operand} (h : okx n x = true) : (mk n f).eval x = ev f x := by
  cases x with
  | tmp t => exact get_mk h
  | const v => rfl
  | global g => rfl
  | func g => rfl

theorem put_mk {n : Nat} {f : Fr} {d : Nat} {v : Value} (h : Nat.blt d n = true) : (mk n f).put (some d) v = mk n (upd f d v) := by
  have hd := lt_of_blt h
  simp only [Act.put, mk]
  congr 1
  apply Array.ext
  · simp
  · intro i h1 h2
    simp only [Array.getElem_setIfInBounds, Array.getElem_ofFn, upd]
    by_cases e : d = i
    · subst e; simp
    · have : Nat.beq i d = false := by
        cases hb : Nat.beq i d with
        | false => rfl
        | true => exact absurd (Nat.eq_of_beq_eq_true hb).symm e
      have hi : i < n := by simpa using h2
      simp only [this, cond_false]
      rw [Array.getElem_setIfInBounds_ne (by simpa using hi) e]
      simp

theorem least {p : Nat → Prop} (h : ∃ k, p k) : ∃ k, p k ∧ ∀ j, p j → k ≤ j := by
  obtain ⟨k, hk⟩ := h
  induction k using Nat.strongRecOn with
  | _ k ih =>
    by_cases hj : ∃ j, j < k ∧ p j
    · obtain ⟨j, hlt, hp⟩ := hj
      exact ih j hlt hp
    · exact ⟨k, hk, fun j hp => Nat.le_of_not_lt fun hlt => hj ⟨j, hlt, hp⟩⟩

section
variable {P : Program} {ops : Array Oper} {rest : List Oper} {o : Oper} {Q : Exit → Act → World → Prop} {n d : Nat} {f : Fr} {v : Value} {w w' : World}

structure RP (P : Program) (n : Nat) (f : Fr) (o : Oper) (d : Nat) (v : Value) (w w' : World) : Prop where
  g : o.guard = none
  dst : o.dst = some d
  hd : Nat.blt d n = true
  run : (execOp (mk n f).eval o).run P w = .ok (.value v) w'

theorem st (hr : RP P n f o d v w w') (h : wpList P ops Q rest (mk n (upd f d v)) w') : wpList P ops Q (o :: rest) (mk n f) w := by
  refine wpList_plain hr.g fun K hK => ?_
  unfold Oper.wp
  rw [hr.run, Oper.upon_value, hr.dst, put_mk hr.hd]
  exact hK _ _ h

/-- An operation without a value (a store; a builtin whose result is dropped). -/
structure RN (P : Program) (n : Nat) (f : Fr) (o : Oper) (w w' : World) : Prop where
  g : o.guard = none
  dst : o.dst = none
  run : (∃ v, (execOp (mk n f).eval o).run P w = .ok (.value v) w') ∨ (execOp (mk n f).eval o).run P w = .ok .skip w'

theorem stn (hr : RN P n f o w w') (h : wpList P ops Q rest (mk n f) w') : wpList P ops Q (o :: rest) (mk n f) w := by
  refine wpList_plain hr.g fun K hK => ?_
  unfold Oper.wp
  rcases hr.run with ⟨v, h'⟩ | h'
  · rw [h', Oper.upon_value, hr.dst]
    exact hK _ _ h
  · rw [h', Oper.upon_skip, hr.dst]
    exact hK _ _ h

/-- A value that is dropped: a call's, say, or an operation of type () with a slot. -/
theorem st_nil (h : Q .normal (mk n f) w) : wpList P ops Q [] (mk n f) w := h

/-! the same, by what an operation runs to -/
def evn (n : Nat) (f : Fr) : Operand → Value
  | .tmp t => cond (Nat.blt t n) (f t) undef
  | .const v => v
  | .global g => .pointer (some ⟨g, 0, none⟩)
  | .func g => .func (.func g) #[] #[]
theorem eval_eq (n : Nat) (f : Fr) : (mk n f).eval = evn n f := by
  funext x
  cases x with
  | tmp t =>
    simp only [evn]
    cases h : Nat.blt t n with
    | true => exact get_mk h
    | false =>
      have : n ≤ t := by
        simp only [Nat.blt] at h
        exact Nat.le_of_not_lt fun hlt => by rw [Nat.ble_eq_true_of_le hlt] at h; cases h
      simp [Act.eval, mk, this]
  | const v => rfl
  | global g => rfl
  | func g => rfl

theorem stk (v : Value) (w' : World) (hg : o.guard = none) (hd : o.dst = some d) (hk : Nat.blt d n = true) (hrun : (execOp (evn n f) o).run P w = .ok (.value v) w') (h : wpList P ops Q rest (mk n (upd f d v)) w') : wpList P ops Q (o :: rest) (mk n f) w :=
  st ⟨hg, hd, hk, by rw [eval_eq]; exact hrun⟩ h
theorem stkn (v : Value) (w' : World) (hg : o.guard = none) (hd : o.dst = none) (hrun : (execOp (evn n f) o).run P w = .ok (.value v) w') (h : wpList P ops Q rest (mk n f) w') : wpList P ops Q (o :: rest) (mk n f) w :=
  stn ⟨hg, hd, .inl ⟨v, by rw [eval_eq]; exact hrun⟩⟩ h
theorem stks (w' : World) (hg : o.guard = none) (hd : o.dst = none) (hrun : (execOp (evn n f) o).run P w = .ok .skip w') (h : wpList P ops Q rest (mk n f) w') : wpList P ops Q (o :: rest) (mk n f) w :=
  stn ⟨hg, hd, .inr (by rw [eval_eq]; exact hrun)⟩ h
theorem run_val {s : Sem Value} (h : s.run P w = .ok v w') : (s >>= fun v => pure (Next.value v)).run P w = .ok (.value v) w' := by
  rw [Sem.run_bind, h]; rfl
theorem run_unit {s : Sem Unit} (h : s.run P w = .ok () w') : (s >>= fun _ => pure Next.skip).run P w = .ok .skip w' := by
  rw [Sem.run_bind, h]; rfl
theorem stv {s : Sem Value} (hg : o.guard = none) (hd : o.dst = some d) (hk : Nat.blt d n = true) (hs : execOp (evn n f) o = (s >>= fun v => pure (Next.value v))) (hrun : s.run P w = .ok v w') (h : wpList P ops Q rest (mk n (upd f d v)) w') : wpList P ops Q (o :: rest) (mk n f) w :=
  stk v w' hg hd hk (by rw [hs]; exact run_val hrun) h
theorem stvn {s : Sem Value} (hg : o.guard = none) (hd : o.dst = none) (hs : execOp (evn n f) o = (s >>= fun v => pure (Next.value v))) (hrun : s.run P w = .ok v w') (h : wpList P ops Q rest (mk n f) w') : wpList P ops Q (o :: rest) (mk n f) w :=
  stkn v w' hg hd (by rw [hs]; exact run_val hrun) h
theorem stu {s : Sem Unit} (hg : o.guard = none) (hd : o.dst = none) (hs : execOp (evn n f) o = (s >>= fun _ => pure Next.skip)) (hrun : s.run P w = .ok () w') (h : wpList P ops Q rest (mk n f) w') : wpList P ops Q (o :: rest) (mk n f) w :=
  stks w' hg hd (by rw [hs]; exact run_unit hrun) h

def aggB (P : Program) (T : TypeId) : Bool :=
  match P.underlying T with
  | some (.struct _) | some (.array _ _) => true
  | some _ => false
  | none => true
theorem rn_load {T : TypeId} {a : Addr} (hT : aggB P T = false) (hc : w.cell? a = some v) : (Instr.loadAt T (.pointer (some a))).run P w = .ok v w := by
  unfold aggB at hT
  cases hu : P.underlying T with
  | none => simp [hu] at hT
  | some d =>
    have : (isAgg T).run P w = .ok false w := by
      simp only [isAgg, Sem.run_bind, run_underlying hu, Result.andThen_ok]
      cases d <;> simp_all
    simp only [Instr.loadAt, Instr.sureAddr, loadVar, Sem.run_bind, Sem.run_pure, Result.andThen_ok, this]
    simp [load, Sem.run, hc]
theorem rn_store {T : TypeId} {a : Addr} {old : Value} (hT : (P.info? T).map (·.size) = some 1) (h1 : v.oneCell' = true) (hc : w.cell? a = some old) (hf : w.frozen? a = false) : (Instr.storeAt T (.pointer (some a)) v).run P w = .ok () (w.setCell a v) := by
  obtain ⟨i, hi, hs⟩ := Option.map_eq_some_iff.1 hT
  have hv : v.cells = #[v] := by cases v <;> first | rfl | simp [Value.oneCell'] at h1
  simp only [Instr.storeAt, Instr.sureAddr, storeVar, Sem.run_bind, Sem.run_pure, Result.andThen_ok, sizeOf, typeInfo]
  simp [hv, hi, hs, storeCells, Addr.add, Go.run_store P w a v .plain h1, stored, hc, hf]

theorem st_call {g : FuncId} {args : Array Value} (hg : o.guard = none) (hd : o.dst = some d) (hk : Nat.blt d n = true) (hrun : (execOp (evn n f) o).run P w = .ok (.enter g args) w)
    (h : Calls P g args w fun e w' => ∃ v, e = .returned v ∧ wpList P ops Q rest (mk n (upd f d v)) w') : wpList P ops Q (o :: rest) (mk n f) w := by
  refine wpList_plain hg fun K hK => ?_
  unfold Oper.wp
  rw [eval_eq, hrun, Oper.upon_enter]
  refine h.mono ?_
  rintro e w' ⟨v, rfl, h'⟩
  show K ((mk n f).put o.dst v) w'
  rw [hd, put_mk hk]
  exact hK _ _ h'
theorem st_calln {g : FuncId} {args : Array Value} (hg : o.guard = none) (hd : o.dst = none) (hrun : (execOp (evn n f) o).run P w = .ok (.enter g args) w)
    (h : Calls P g args w fun e w' => ∃ v, e = .returned v ∧ wpList P ops Q rest (mk n f) w') : wpList P ops Q (o :: rest) (mk n f) w := by
  refine wpList_plain hg fun K hK => ?_
  unfold Oper.wp
  rw [eval_eq, hrun, Oper.upon_enter]
  refine h.mono ?_
  rintro e w' ⟨v, rfl, h'⟩
  show K ((mk n f).put o.dst v) w'
  rw [hd]
  exact hK _ _ h'

theorem upd_id {g f : Fr} {i : Nat} (hg : g = f) (h : f i = v) : upd g i v = f := by
  subst hg
  funext j
  simp only [upd]
  cases hb : Nat.beq j i with
  | true => rw [Nat.eq_of_beq_eq_true hb]; exact h.symm
  | false => rfl
theorem at_frame {G : Fr → Prop} {g f : Fr} (e : g = f) (h : G g) : G f := e ▸ h
theorem some_of_ne {p : Option Addr} (h : p ≠ none) : ∃ a, p = some a := by
  cases p with
  | none => exact absurd rfl h
  | some a => exact ⟨a, rfl⟩

/-! guards -/
theorem wpList_strip {dst : Option Nat} {op : Op} {ty : TypeId} {pos : String} {after : Array Edge} {g : Option (Nat × Bool)} {a : Act}
    (hw : Region.wanted ⟨dst, op, ty, pos, after, g⟩ (yielded ops a.tmps) = true)
    (h : wpList P ops Q (⟨dst, op, ty, pos, after, none⟩ :: rest) a w) : wpList P ops Q (⟨dst, op, ty, pos, after, g⟩ :: rest) a w := by
  unfold wpList at h ⊢
  rw [if_pos (by simp [Region.wanted])] at h
  rw [if_pos hw]
  exact h

theorem get?_mk {t : Nat} (h : Nat.blt t n = true) : (mk n f).tmps[t]? = some (f t) := by
  have := lt_of_blt h
  simp [mk, this]

theorem st_gyes {dst : Option Nat} {op : Op} {ty : TypeId} {pos : String} {after : Array Edge} {j : Nat} {b : Bool} {e : Nat}
    (hj : (ops[j]?).bind (·.dst) = some e) (he : Nat.blt e n = true) (hf : f e = .bool b)
    (h : wpList P ops Q (⟨dst, op, ty, pos, after, none⟩ :: rest) (mk n f) w) : wpList P ops Q (⟨dst, op, ty, pos, after, some (j, b)⟩ :: rest) (mk n f) w :=
  wpList_strip (by simp [Region.wanted, yielded, hj, get?_mk he, hf]) h

theorem st_gno {op : Op} {ty : TypeId} {pos : String} {after : Array Edge} {j : Nat} {b : Bool} {e : Nat}
    (hj : (ops[j]?).bind (·.dst) = some e) (he : Nat.blt e n = true) (hf : f e = .bool (!b)) (hd : Nat.blt d n = true)
    (h : wpList P ops Q rest (mk n (upd f d undef)) w) : wpList P ops Q (⟨some d, op, ty, pos, after, some (j, b)⟩ :: rest) (mk n f) w := by
  unfold wpList
  rw [if_neg (by cases b <;> simp [Region.wanted, yielded, hj, get?_mk he, hf]), put_mk hd]
  exact h

theorem st_gnon {op : Op} {ty : TypeId} {pos : String} {after : Array Edge} {j : Nat} {b : Bool} {e : Nat}
    (hj : (ops[j]?).bind (·.dst) = some e) (he : Nat.blt e n = true) (hf : f e = .bool (!b))
    (h : wpList P ops Q rest (mk n f) w) : wpList P ops Q (⟨none, op, ty, pos, after, some (j, b)⟩ :: rest) (mk n f) w := by
  unfold wpList
  rw [if_neg (by cases b <;> simp [Region.wanted, yielded, hj, get?_mk he, hf])]
  exact h

theorem st_gud {op : Op} {ty : TypeId} {pos : String} {after : Array Edge} {j : Nat} {b : Bool} {e : Nat}
    (hj : (ops[j]?).bind (·.dst) = some e) (he : Nat.blt e n = true) (hf : f e = undef) (hd : Nat.blt d n = true)
    (h : wpList P ops Q rest (mk n (upd f d undef)) w) : wpList P ops Q (⟨some d, op, ty, pos, after, some (j, b)⟩ :: rest) (mk n f) w := by
  unfold wpList
  rw [if_neg (by simp [Region.wanted, yielded, hj, get?_mk he, hf, undef]), put_mk hd]
  exact h
theorem st_gudn {op : Op} {ty : TypeId} {pos : String} {after : Array Edge} {j : Nat} {b : Bool} {e : Nat}
    (hj : (ops[j]?).bind (·.dst) = some e) (he : Nat.blt e n = true) (hf : f e = undef)
    (h : wpList P ops Q rest (mk n f) w) : wpList P ops Q (⟨none, op, ty, pos, after, some (j, b)⟩ :: rest) (mk n f) w := by
  unfold wpList
  rw [if_neg (by simp [Region.wanted, yielded, hj, get?_mk he, hf, undef])]
  exact h
theorem st_frame {g : Fr} (e : g = f) (h : wpList P ops Q rest (mk n g) w) : wpList P ops Q rest (mk n f) w := e ▸ h
theorem st_fork (b : Bool) (h1 : b = true → wpList P ops Q rest (mk n f) w) (h2 : b = false → wpList P ops Q rest (mk n f) w) : wpList P ops Q rest (mk n f) w := by
  cases b
  · exact h2 rfl
  · exact h1 rfl
theorem not_true_of {b : Bool} (h : (!b) = true) : b = false := by cases b <;> simp_all
theorem not_false_of {b : Bool} (h : (!b) = false) : b = true := by cases b <;> simp_all

/-! operations on numbers -/
def ibits (op : BinOp) (k : IntKind) (x y : Int) : Int :=
  match op with
  | .and => k.wrap (BitVec.ofInt k.bits x &&& BitVec.ofInt k.bits y).toNat
  | .or => k.wrap (BitVec.ofInt k.bits x ||| BitVec.ofInt k.bits y).toNat
  | .xor => k.wrap (BitVec.ofInt k.bits x ^^^ BitVec.ofInt k.bits y).toNat
  | .andNot => k.wrap (BitVec.ofInt k.bits x &&& ~~~ BitVec.ofInt k.bits y).toNat
  | _ => 0
def ishl (k : IntKind) (x y : Int) : Int := k.wrap (x * 2 ^ min y.toNat k.bits)
def ishr (k : IntKind) (x y : Int) : Int := x.fdiv (2 ^ min y.toNat k.bits)
theorem stq {X Y : Int} {k : IntKind} {bo : BinOp} {R : Int} {xt yt : TypeId} {x y : Operand} {dst : Option Nat} {ty : TypeId} {pos : String} {after : Array Edge} {g : Option (Nat × Bool)}
    (hx : evn n f x = .int k X) (hy : evn n f y = .int k Y) (hop : Op.intDiv bo k X Y = pure (.int k R)) (hb : bo = .quo ∨ bo = .rem) :
    (execOp (evn n f) ⟨dst, .binOp bo xt x y yt, ty, pos, after, g⟩).run P w = .ok (.value (.int k R)) w := by
  rcases hb with rfl | rfl <;> simp [execOp, hx, hy, eqGuard, binOp, hop, Result.andThen]
theorem run_quo {X Y : Int} {k : IntKind} {xt yt : TypeId} {x y : Operand} {dst : Option Nat} {ty : TypeId} {pos : String} {after : Array Edge} {g : Option (Nat × Bool)}
    (h0 : Y ≠ 0) (hx : evn n f x = .int k X) (hy : evn n f y = .int k Y) :
    (execOp (evn n f) ⟨dst, .binOp .quo xt x y yt, ty, pos, after, g⟩).run P w = .ok (.value (.int k (k.wrap (Int.tdiv X Y)))) w :=
  stq hx hy (by simp [Op.intDiv, h0]) (.inl rfl)
theorem run_rem {X Y : Int} {k : IntKind} {xt yt : TypeId} {x y : Operand} {dst : Option Nat} {ty : TypeId} {pos : String} {after : Array Edge} {g : Option (Nat × Bool)}
    (h0 : Y ≠ 0) (hx : evn n f x = .int k X) (hy : evn n f y = .int k Y) :
    (execOp (evn n f) ⟨dst, .binOp .rem xt x y yt, ty, pos, after, g⟩).run P w = .ok (.value (.int k (Int.tmod X Y))) w :=
  stq hx hy (by simp [Op.intDiv, h0]) (.inr rfl)
theorem run_shl {X Y : Int} {k k' : IntKind} {xt yt : TypeId} {x y : Operand} {dst : Option Nat} {ty : TypeId} {pos : String} {after : Array Edge} {g : Option (Nat × Bool)}
    (h0 : 0 ≤ Y) (hx : evn n f x = .int k X) (hy : evn n f y = .int k' Y) :
    (execOp (evn n f) ⟨dst, .binOp .shl xt x y yt, ty, pos, after, g⟩).run P w = .ok (.value (.int k (ishl k X Y))) w := by
  simp [execOp, hx, hy, eqGuard, binOp, Op.shift, show ¬ Y < 0 by omega, ishl, Result.andThen]
theorem run_shr {X Y : Int} {k k' : IntKind} {xt yt : TypeId} {x y : Operand} {dst : Option Nat} {ty : TypeId} {pos : String} {after : Array Edge} {g : Option (Nat × Bool)}
    (h0 : 0 ≤ Y) (hx : evn n f x = .int k X) (hy : evn n f y = .int k' Y) :
    (execOp (evn n f) ⟨dst, .binOp .shr xt x y yt, ty, pos, after, g⟩).run P w = .ok (.value (.int k (ishr k X Y))) w := by
  simp [execOp, hx, hy, eqGuard, binOp, Op.shift, show ¬ Y < 0 by omega, ishr, Result.andThen]
theorem run_nilCheck {p : Option Addr} {a : Addr} {x : Operand} {dst : Option Nat} {ty : TypeId} {pos : String} {after : Array Edge} {g : Option (Nat × Bool)} (hp : p = some a) (hx : evn n f x = .pointer p) :
    (execOp (evn n f) ⟨dst, .nilCheck x, ty, pos, after, g⟩).run P w = .ok (.value (.pointer (some a))) w := by
  subst hp; simp [execOp, hx]
theorem run_min2 {ts : Array TypeId} {t : TypeId} {k k' : IntKind} {x y : Int} : (Builtin.min_ ts t #[.int k x, .int k' y]).run P w = .ok (.int k (if y < x then y else x)) w := by
  simp [Builtin.min_, Builtin.min2]
theorem run_max2 {ts : Array TypeId} {t : TypeId} {k k' : IntKind} {x y : Int} : (Builtin.max_ ts t #[.int k x, .int k' y]).run P w = .ok (.int k (if y > x then y else x)) w := by
  simp [Builtin.max_, Builtin.max2]

/-! memory of several cells -/
def CellsAt (w : World) (a : Addr) : Nat → List Value → Prop
  | _, [] => True
  | i, v :: vs => w.cell? (a.add i) = some v ∧ CellsAt w a (i + 1) vs
def HasCell (w : World) (a : Addr) : Prop := (∃ old, w.cell? a = some old) ∧ w.frozen? a = false
def HasCells (w : World) (a : Addr) : Nat → Nat → Prop
  | _, 0 => True
  | i, k + 1 => HasCell w (a.add i) ∧ HasCells w a (i + 1) k
def setCells (w : World) (a : Addr) : Nat → List Value → World
  | _, [] => w
  | i, v :: vs => setCells (w.setCell (a.add i) v) a (i + 1) vs
theorem CellsAt.get {a : Addr} : ∀ {i : Nat} {vs : List Value}, CellsAt w a i vs → ∀ j u, vs[j]? = some u → w.cell? (a.add (i + j)) = some u
  | _, [], _, j, u, h => by simp at h
  | i, v :: vs, hc, 0, u, h => by simp at h; subst h; exact hc.1
  | i, v :: vs, hc, j + 1, u, h => by
    have := CellsAt.get hc.2 j u (by simpa using h)
    rw [show i + (j + 1) = i + 1 + j by omega]; exact this
def aggT (P : Program) (T : TypeId) : Bool :=
  match P.underlying T with
  | some (.struct _) | some (.array _ _) => true
  | _ => false
theorem rn_loadcells {T : TypeId} {a : Addr} {k : Nat} {cs : List Value} (hT : aggT P T = true ∧ (P.info? T).map (·.size) = some k) (hl : cs.length = k) (hc : CellsAt w a 0 cs) : (Instr.loadAt T (.pointer (some a))).run P w = .ok (.agg cs.toArray) w := by
  obtain ⟨h1, h2⟩ := hT
  obtain ⟨i, hi, hs⟩ := Option.map_eq_some_iff.1 h2
  unfold aggT at h1
  cases hu : P.underlying T with
  | none => simp [hu] at h1
  | some d =>
    have : (isAgg T).run P w = .ok true w := by
      simp only [isAgg, Sem.run_bind, run_underlying hu, Result.andThen_ok]
      cases d <;> simp_all
    have hl' := run_loadCells_list (P := P) w a cs (fun j u hj => by have := hc.get j u hj; simpa using this)
    simp only [Instr.loadAt, Instr.sureAddr, loadVar, Sem.run_bind, Sem.run_pure, Result.andThen_ok, this]
    simp [sizeOf, typeInfo, hi, hs, ← hl, hl', Result.andThen]
theorem rn_store1 {T : TypeId} {a : Addr} (hT : (P.info? T).map (·.size) = some 1) (h1 : v.oneCell' = true) (h : HasCell w a) : (Instr.storeAt T (.pointer (some a)) v).run P w = .ok () (w.setCell a v) := by
  obtain ⟨⟨old, hc⟩, hf⟩ := h
  exact rn_store hT h1 hc hf
/-! against nil -/
def ptrB (P : Program) (t : TypeId) : Bool := match P.underlying t with | some (.pointer _) => true | _ => false
def sliceB (P : Program) (t : TypeId) : Bool := match P.underlying t with | some (.slice _) => true | _ => false
def mapB (P : Program) (t : TypeId) : Bool := match P.underlying t with | some (.map _ _) => true | _ => false
theorem eqIn_ptrnil (d : Nat) {t : TypeId} {p : Option Addr} (h : ptrB P t = true) : (Op.equalIn (d + 1) t (.pointer p) (.pointer none)).run P w = .ok p.isNone w := by
  unfold ptrB at h
  split at h
  · rename_i he
    cases p <;> simp [Op.equalIn, run_underlying he]
  · cases h
theorem eq_ptrnil {t : TypeId} {p : Option Addr} (h : ptrB P t = true) : (Op.equal t (.pointer p) (.pointer none)).run P w = .ok p.isNone w := eqIn_ptrnil 9999 h
theorem eqIn_slicenil (d : Nat) {t : TypeId} {p : Option Addr} {l c : Nat} (h : sliceB P t = true) : (Op.equalIn (d + 1) t (.slice p l c) (.slice none 0 0)).run P w = .ok p.isNone w := by
  unfold sliceB at h
  split at h
  · rename_i he
    cases p <;> simp [Op.equalIn, run_underlying he]
  · cases h
theorem eq_slicenil {t : TypeId} {p : Option Addr} {l c : Nat} (h : sliceB P t = true) : (Op.equal t (.slice p l c) (.slice none 0 0)).run P w = .ok p.isNone w := eqIn_slicenil 9999 h
theorem eqIn_mapnil (d : Nat) {t : TypeId} {p : Option Nat} (h : mapB P t = true) : (Op.equalIn (d + 1) t (.map p) (.map none)).run P w = .ok p.isNone w := by
  unfold mapB at h
  split at h
  · rename_i he
    cases p <;> simp [Op.equalIn, run_underlying he]
  · cases h
theorem eq_mapnil {t : TypeId} {p : Option Nat} (h : mapB P t = true) : (Op.equal t (.map p) (.map none)).run P w = .ok p.isNone w := eqIn_mapnil 9999 h
theorem run_eql_ptrnil {t : TypeId} {p : Option Addr} {x y : Operand} (h : ptrB P t = true) : (do eqGuard .eql t x y (.pointer p) (.pointer none); binOp .eql t (.pointer p) (.pointer none) : Sem Value).run P w = .ok (.bool p.isNone) w := by
  simp [eqGuard, binOp, eq_ptrnil h]
theorem run_neq_ptrnil {t : TypeId} {p : Option Addr} {x y : Operand} (h : ptrB P t = true) : (do eqGuard .neq t x y (.pointer p) (.pointer none); binOp .neq t (.pointer p) (.pointer none) : Sem Value).run P w = .ok (.bool !p.isNone) w := by
  simp [eqGuard, binOp, eq_ptrnil h]
theorem run_eql_ptrsnil {t : TypeId} {a : Addr} {x y : Operand} (h : ptrB P t = true) : (do eqGuard .eql t x y (.pointer (some a)) (.pointer none); binOp .eql t (.pointer (some a)) (.pointer none) : Sem Value).run P w = .ok (.bool false) w := run_eql_ptrnil h
theorem run_neq_ptrsnil {t : TypeId} {a : Addr} {x y : Operand} (h : ptrB P t = true) : (do eqGuard .neq t x y (.pointer (some a)) (.pointer none); binOp .neq t (.pointer (some a)) (.pointer none) : Sem Value).run P w = .ok (.bool true) w := run_neq_ptrnil h
theorem run_eql_slicenil {t : TypeId} {p : Option Addr} {l c : Nat} {x y : Operand} (h : sliceB P t = true) : (do eqGuard .eql t x y (.slice p l c) (.slice none 0 0); binOp .eql t (.slice p l c) (.slice none 0 0) : Sem Value).run P w = .ok (.bool p.isNone) w := by
  simp [eqGuard, binOp, eq_slicenil h]
theorem run_neq_slicenil {t : TypeId} {p : Option Addr} {l c : Nat} {x y : Operand} (h : sliceB P t = true) : (do eqGuard .neq t x y (.slice p l c) (.slice none 0 0); binOp .neq t (.slice p l c) (.slice none 0 0) : Sem Value).run P w = .ok (.bool !p.isNone) w := by
  simp [eqGuard, binOp, eq_slicenil h]
theorem run_eql_mapnil {t : TypeId} {p : Option Nat} {x y : Operand} (h : mapB P t = true) : (do eqGuard .eql t x y (.map p) (.map none); binOp .eql t (.map p) (.map none) : Sem Value).run P w = .ok (.bool p.isNone) w := by
  simp [eqGuard, binOp, eq_mapnil h]
theorem run_neq_mapnil {t : TypeId} {p : Option Nat} {x y : Operand} (h : mapB P t = true) : (do eqGuard .neq t x y (.map p) (.map none); binOp .neq t (.map p) (.map none) : Sem Value).run P w = .ok (.bool !p.isNone) w := by
  simp [eqGuard, binOp, eq_mapnil h]
theorem run_min3 {ts : Array TypeId} {t : TypeId} {k k' k'' : IntKind} {x y z : Int} : (Builtin.min_ ts t #[.int k x, .int k' y, .int k'' z]).run P w = .ok (.int k (if z < (if y < x then y else x) then z else (if y < x then y else x))) w := by
  simp [Builtin.min_, Builtin.min2]
theorem run_max3 {ts : Array TypeId} {t : TypeId} {k k' k'' : IntKind} {x y z : Int} : (Builtin.max_ ts t #[.int k x, .int k' y, .int k'' z]).run P w = .ok (.int k (if z > (if y > x then y else x) then z else (if y > x then y else x))) w := by
  simp [Builtin.max_, Builtin.max2]
theorem hasCell_set {a b : Addr} (h : HasCell w b) : HasCell (w.setCell a v) b := by
  obtain ⟨⟨old, h1⟩, h2⟩ := h
  refine ⟨?_, by simpa using h2⟩
  by_cases e : a = b
  · subst e; exact ⟨v, World.cell?_setCell_same w a v h1⟩
  · exact ⟨old, (World.cell?_setCell_other w a b v e).trans h1⟩
theorem HasCells.set {a b : Addr} : ∀ {i k : Nat}, HasCells w b i k → HasCells (w.setCell a v) b i k
  | _, 0, _ => trivial
  | _, _ + 1, h => ⟨hasCell_set h.1, HasCells.set h.2⟩
theorem run_storecells' {a : Addr} : ∀ {vs : List Value} {i : Nat} {w : World}, (∀ u ∈ vs, u.oneCell' = true) → HasCells w a i vs.length → (storeCells a vs i).run P w = .ok () (setCells w a i vs)
  | [], _, _, _, _ => rfl
  | v :: vs, i, w, h1, h => by
    obtain ⟨⟨⟨old, hc⟩, hf⟩, hr⟩ := h
    have ih := run_storecells' (vs := vs) (i := i + 1) (w := w.setCell (a.add i) v) (fun u hu => h1 u (List.mem_cons_of_mem _ hu)) hr.set
    simp only [storeCells, Sem.run_bind, Go.run_store P w (a.add i) v .plain (h1 v (List.mem_cons_self ..)), stored, hc, hf]
    simpa [Result.andThen, setCells] using ih
theorem rn_storecells {T : TypeId} {a : Addr} {k : Nat} {cs : List Value} (hT : (P.info? T).map (·.size) = some k) (hl : cs.length = k) (h1 : ∀ u ∈ cs, u.oneCell' = true) (h : HasCells w a 0 k) : (Instr.storeAt T (.pointer (some a)) (.agg cs.toArray)).run P w = .ok () (setCells w a 0 cs) := by
  obtain ⟨i, hi, hs⟩ := Option.map_eq_some_iff.1 hT
  subst hl
  have := run_storecells' h1 h (P := P)
  simp only [Instr.storeAt, Instr.sureAddr, storeVar, Sem.run_bind, Sem.run_pure, Result.andThen_ok, sizeOf, typeInfo]
  simp [Value.cells, hi, hs, this]
theorem run_ixs {t el : TypeId} {A : Option Addr} {a : Addr} {m c sz : Nat} {k : IntKind} {i : Int} (ht : P.underlying t = some (.slice el)) (hs : (P.info? el).map (·.size) = some sz) (hA : A = some a) (h0 : 0 ≤ i) (h1 : i < (m : Int)) :
    (Instr.indexAt t (.slice A m c) (.int k i)).run P w = .ok (.pointer (some (a.add (i.toNat * sz)))) w := by
  obtain ⟨x, hx, hsz⟩ := Option.map_eq_some_iff.1 hs
  subst hA
  simp [Instr.indexAt, asIntOf, run_underlying ht, h0, h1, sizeOf, typeInfo, hx, hsz]
theorem run_ixs1 {t el : TypeId} {A : Option Addr} {a : Addr} {m c : Nat} {k : IntKind} {i : Int} (ht : P.underlying t = some (.slice el)) (hs : (P.info? el).map (·.size) = some 1) (hA : A = some a) (h0 : 0 ≤ i) (h1 : i < (m : Int)) :
    (Instr.indexAt t (.slice A m c) (.int k i)).run P w = .ok (.pointer (some (a.add i.toNat))) w := by
  have := run_ixs (w := w) (k := k) (c := c) ht hs hA h0 h1
  rwa [Nat.mul_one] at this
theorem run_ixa {t el : TypeId} {a : Addr} {m sz : Nat} {k : IntKind} {i : Int} (ht : P.underlying t = some (.array m el)) (hs : (P.info? el).map (·.size) = some sz) (h0 : 0 ≤ i) (h1 : i < (m : Int)) :
    (Instr.indexAt t (.pointer (some a)) (.int k i)).run P w = .ok (.pointer (some (a.add (i.toNat * sz)))) w := by
  obtain ⟨x, hx, hsz⟩ := Option.map_eq_some_iff.1 hs
  simp [Instr.indexAt, asIntOf, Instr.sureAddr, run_underlying ht, h0, h1, sizeOf, typeInfo, hx, hsz]
theorem run_ixa1 {t el : TypeId} {a : Addr} {m : Nat} {k : IntKind} {i : Int} (ht : P.underlying t = some (.array m el)) (hs : (P.info? el).map (·.size) = some 1) (h0 : 0 ≤ i) (h1 : i < (m : Int)) :
    (Instr.indexAt t (.pointer (some a)) (.int k i)).run P w = .ok (.pointer (some (a.add i.toNat))) w := by
  have := run_ixa (w := w) (k := k) (a := a) ht hs h0 h1
  rwa [Nat.mul_one] at this
theorem wp_cond_true_mk {c : Operand} {x y : Code} (hk : okx n c = true) (hc : ev f c = .bool true) (h : x.wp P Q (mk n f) w) : (Code.cond c x y).wp P Q (mk n f) w := wp_cond_true ((eval_mk hk).trans hc) h
theorem wp_cond_false_mk {c : Operand} {x y : Code} (hk : okx n c = true) (hc : ev f c = .bool false) (h : y.wp P Q (mk n f) w) : (Code.cond c x y).wp P Q (mk n f) w := wp_cond_false ((eval_mk hk).trans hc) h

/-! regions that draw and only read -/
@[reducible] def DC (w : World) : World → Prop := fun w' => ∃ m, w' = w.drewN m
theorem qt {Qq : Act → Prop} (hr : ∀ m, RP P n f o d v (w.drewN m) (w.drewN m)) (h : wpQuiet P ops (DC w) Qq rest (mk n (upd f d v))) : wpQuiet P ops (DC w) Qq (o :: rest) (mk n f) := by
  have h0 := hr 0
  unfold wpQuiet
  rw [if_pos (by simp [Region.wanted, h0.g])]
  refine ⟨v, ?_, ?_⟩
  · rintro _ ⟨m, rfl⟩
    unfold Oper.quietAt
    rw [(hr m).run]
    exact ⟨rfl, rfl⟩
  · rw [h0.dst, put_mk h0.hd]; exact h
theorem qtk {Qq : Act → Prop} (v : Value) (hg : o.guard = none) (hd : o.dst = some d) (hk : Nat.blt d n = true) (hrun : ∀ m, (execOp (evn n f) o).run P (w.drewN m) = .ok (.value v) (w.drewN m)) (h : wpQuiet P ops (DC w) Qq rest (mk n (upd f d v))) : wpQuiet P ops (DC w) Qq (o :: rest) (mk n f) :=
  qt (fun m => ⟨hg, hd, hk, by rw [eval_eq]; exact hrun m⟩) h
theorem qtv {Qq : Act → Prop} {s : Sem Value} (hg : o.guard = none) (hd : o.dst = some d) (hk : Nat.blt d n = true) (hs : execOp (evn n f) o = (s >>= fun v => pure (Next.value v))) (hrun : ∀ m, s.run P (w.drewN m) = .ok v (w.drewN m)) (h : wpQuiet P ops (DC w) Qq rest (mk n (upd f d v))) : wpQuiet P ops (DC w) Qq (o :: rest) (mk n f) :=
  qtk v hg hd hk (fun m => by rw [hs]; exact run_val (hrun m)) h
theorem qt_nil {Qq : Act → Prop} (h : Qq (mk n f)) : wpQuiet P ops (DC w) Qq [] (mk n f) := h
theorem wpQuiet_strip {Qq : Act → Prop} {C : World → Prop} {dst : Option Nat} {op : Op} {ty : TypeId} {pos : String} {after : Array Edge} {g : Option (Nat × Bool)} {a : Act}
    (hw : Region.wanted ⟨dst, op, ty, pos, after, g⟩ (yielded ops a.tmps) = true)
    (h : wpQuiet P ops C Qq (⟨dst, op, ty, pos, after, none⟩ :: rest) a) : wpQuiet P ops C Qq (⟨dst, op, ty, pos, after, g⟩ :: rest) a := by
  unfold wpQuiet at h ⊢
  rw [if_pos (by simp [Region.wanted])] at h
  rw [if_pos hw]
  exact h
theorem qt_gyes {Qq : Act → Prop} {dst : Option Nat} {op : Op} {ty : TypeId} {pos : String} {after : Array Edge} {j : Nat} {b : Bool} {e : Nat}
    (hj : (ops[j]?).bind (·.dst) = some e) (he : Nat.blt e n = true) (hf : f e = .bool b)
    (h : wpQuiet P ops (DC w) Qq (⟨dst, op, ty, pos, after, none⟩ :: rest) (mk n f)) : wpQuiet P ops (DC w) Qq (⟨dst, op, ty, pos, after, some (j, b)⟩ :: rest) (mk n f) :=
  wpQuiet_strip (by simp [Region.wanted, yielded, hj, get?_mk he, hf]) h
theorem qt_gno {Qq : Act → Prop} {op : Op} {ty : TypeId} {pos : String} {after : Array Edge} {j : Nat} {b : Bool} {e : Nat}
    (hj : (ops[j]?).bind (·.dst) = some e) (he : Nat.blt e n = true) (hf : f e = .bool (!b)) (hd : Nat.blt d n = true)
    (h : wpQuiet P ops (DC w) Qq rest (mk n (upd f d undef))) : wpQuiet P ops (DC w) Qq (⟨some d, op, ty, pos, after, some (j, b)⟩ :: rest) (mk n f) := by
  unfold wpQuiet
  rw [if_neg (by cases b <;> simp [Region.wanted, yielded, hj, get?_mk he, hf]), put_mk hd]
  exact h
theorem st_draw {id : Nat} {l : List Oper} (hm : P.follows .mixedOrders = true) (hB : Region.lexB .any l.toArray = true)
    (h : wpQuiet P l.toArray (DC w) (fun a' => ∀ w', (∃ m, w' = w.drewN m) → Q .normal a' w') l (mk n f)) : (Code.region id l.toArray true).wp P Q (mk n f) w :=
  wp_region_quiet_lit hm hB h
theorem st_region {id : Nat} {l : List Oper} (h : wpList P l.toArray Q l (mk n f) w) : (Code.region id l.toArray false).wp P Q (mk n f) w := wp_region_lit h

/-! control -/
theorem st_cond {c : Operand} {x y : Code} {b : Bool} (hk : okx n c = true) (hc : ev f c = .bool b) (h1 : b = true → x.wp P Q (mk n f) w) (h2 : b = false → y.wp P Q (mk n f) w) : (Code.cond c x y).wp P Q (mk n f) w :=
  wp_cond_split ((eval_mk hk).trans hc) h1 h2

def kLoop {S : Type} (body : (S → World → Prop) → S → World → Prop) (s : S) (w : World) : Prop :=
  ∃ (I : S → World → Prop) (m : S → World → Nat), I s w ∧ ∀ s w, I s w → body (fun s' w' => I s' w' ∧ m s' w' < m s w) s w

theorem st_loop {S : Type} {c : Code} {body : (S → World → Prop) → S → World → Prop} (fr : S → Fr → Fr) (s0 : S) (hf : fr s0 f = f) (h : kLoop body s0 w)
    (hstep : ∀ (next : S → World → Prop) s j w, body next s w → c.wp P (Exit.then (fun a' w' => ∃ s' j', a' = mk n (fr s' j') ∧ next s' w') Q) (mk n (fr s j)) w) : (Code.loop c).wp P Q (mk n f) w := by
  classical
  obtain ⟨I, m, h0, hb⟩ := h
  let R : Act → World → Nat → Prop := fun a w k => ∃ s j, a = mk n (fr s j) ∧ I s w ∧ m s w = k
  let M : Act → World → Nat := fun a w => if h : ∃ k, R a w k then Classical.choose (least h) else 0
  refine wp_loop (fun a w => ∃ k, R a w k) M ⟨_, s0, f, by rw [hf], h0, rfl⟩ ?_
  intro a w hI
  have hM : M a w = Classical.choose (least hI) := by simp only [M, dif_pos hI]
  obtain ⟨s, j, ha, hs, hm⟩ := (Classical.choose_spec (least hI)).1
  subst ha
  refine Code.wp_mono (fun e a' w' q => ?_) (hstep _ s j w (hb s w hs))
  cases e <;> first
    | exact q
    | skip
  obtain ⟨s', j', ha', hs', hlt⟩ := q
  have hI' : ∃ k, R a' w' k := ⟨_, s', j', ha', hs', rfl⟩
  refine ⟨hI', ?_⟩
  rw [hM, ← hm]
  have : M a' w' = Classical.choose (least hI') := by simp only [M, dif_pos hI']
  rw [this]
  exact Nat.lt_of_le_of_lt ((Classical.choose_spec (least hI')).2 _ ⟨s', j', ha', hs', rfl⟩) hlt

theorem st_next {S : Type} {fr : S → Fr → Fr} {next : S → World → Prop} {Q' : Exit → Act → World → Prop} (s : S) (h : next s w) (e : fr s f = f) :
    Exit.then (fun a' w' => ∃ s' j', a' = mk n (fr s' j') ∧ next s' w') Q' .normal (mk n f) w := ⟨s, f, by rw [e], h⟩

theorem sx_enter {fid : FuncId} {fn : Func} {c : Code} {args : List Value} {R : Ending → World → Prop} (hf : P.funcs[fid]? = some fn) (hb : fn.body = some c) (hn : fn.ntmps = n) (hl : Nat.ble args.length n = true)
    (h : c.wp P (bodyPost P fn R) (mk n (ini args)) w) : Calls P fid args.toArray w R := by
  refine calls_of_wp hf hb ?_
  have hle := Nat.le_of_ble_eq_true hl
  have : ({ tmps := args.toArray ++ Array.replicate (fn.ntmps - args.toArray.size) undef, defers := [] } : Act) = mk n (ini args) := by
    subst hn
    simp only [mk]
    congr 1
    apply Array.ext
    · simp; omega
    · intro i h1 h2
      simp only [Array.getElem_ofFn, ini]
      by_cases hi : i < args.length
      · simp [Array.getElem_append, hi, List.getD_eq_getElem?_getD]
      · simp [Array.getElem_append, hi, List.getD_eq_getElem?_getD, undef]
  rw [this]
  exact h

theorem sx_ret {fn : Func} {R : Ending → World → Prop} (hr : (results fn (mk n f).tmps).run P w = .ok v w) (hR : R (.returned v) w) : bodyPost P fn R .ret (mk n f) w := ⟨rfl, v, hr, hR⟩
theorem sx_end {fn : Func} {R : Ending → World → Prop} (hr : (results fn (mk n f).tmps).run P w = .ok v w) (hR : R (.returned v) w) : bodyPost P fn R .normal (mk n f) w := ⟨rfl, v, hr, hR⟩
theorem res0 {fn : Func} (h : fn.results = #[]) : (results fn (mk n f).tmps).run P w = .ok (.tuple #[]) w := results_none h _ _ _
theorem res1 {fn : Func} {t : Nat} (h : fn.results = #[.tmp t]) (hk : Nat.blt t n = true) (hv : f t = v) : (results fn (mk n f).tmps).run P w = .ok v w := by
  rw [results_tmp h, get_mk hk, hv]
theorem res2 {fn : Func} {t u : Nat} {v1 v2 : Value} (h : fn.results = #[.tmp t, .tmp u]) (hk : (Nat.blt t n && Nat.blt u n) = true) (hv : f t = v1) (hv2 : f u = v2) : (results fn (mk n f).tmps).run P w = .ok (.tuple #[v1, v2]) w := by
  simp only [Bool.and_eq_true] at hk
  rw [results_tmp2 h, get_mk hk.1, get_mk hk.2, hv, hv2]
theorem res3 {fn : Func} {t u x : Nat} {v1 v2 v3 : Value} (h : fn.results = #[.tmp t, .tmp u, .tmp x]) (hk : (Nat.blt t n && Nat.blt u n && Nat.blt x n) = true) (hv : f t = v1) (hv2 : f u = v2) (hv3 : f x = v3) : (results fn (mk n f).tmps).run P w = .ok (.tuple #[v1, v2, v3]) w := by
  simp only [Bool.and_eq_true] at hk
  rw [results_tmp3 h, get_mk hk.1.1, get_mk hk.1.2, get_mk hk.2, hv, hv2, hv3]
end

end Go.Proofs.Ytjgijifankaglaa.SX
