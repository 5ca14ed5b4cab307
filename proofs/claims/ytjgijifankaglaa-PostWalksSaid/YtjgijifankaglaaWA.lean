/- Regions at a fence (where yield is called, and inside a round), over frames that are functions. -/
import Derived.Test.YtjgijifankaglaaSY
import Derived.RangeFuncNested
import Derived.RangeFuncBound
import Derived.RangeFuncCalls
import Derived.RangeFuncLeaves
import Derived.OwnWalkIn
import Derived.TacticsInMore
namespace Go.Proofs.Ytjgijifankaglaa.SX
open Go Go.RowKit
set_option linter.unusedVariables false

def mkd (n : Nat) (f : Fr) (ds : List Deferred) : Act := { mk n f with defers := ds }
theorem mkd_nil (n : Nat) (f : Fr) : mkd n f [] = mk n f := rfl
theorem put_mkd {n : Nat} {f : Fr} {ds : List Deferred} {d : Nat} {v : Value} (h : Nat.blt d n = true) : (mkd n f ds).put (some d) v = mkd n (upd f d v) ds := by
  have := put_mk (n := n) (f := f) (d := d) (v := v) h
  unfold mkd Act.put
  unfold Act.put at this
  have h2 : (mk n (upd f d v)).tmps = (mk n f).tmps.setIfInBounds d v := by rw [← this]
  simp only [h2]
theorem eval_mkd (n : Nat) (f : Fr) (ds : List Deferred) : (mkd n f ds).eval = evn n f := by
  rw [← eval_eq]; rfl
structure WI (F : Fence) (nn : Nat) (ds : List Deferred) (P : Program) (ops : Array Oper) (Q : Exit → Act → World → Prop) (l : List Oper) (n : Nat) (f : Fr) (w : World) : Prop where
  out : wpListIn F nn P ops Q l (mkd n f ds) w
structure AF (F : Fence) : Prop where
  fn : ∀ g, F.fn g
  dp : F.depth = none
theorem af_wide : AF Fence.wide := ⟨fun _ => trivial, rfl⟩
theorem af_round (l : Nat) : AF (Fence.wide.inRound l) := ⟨fun _ => trivial, rfl⟩
section
variable {F : Fence} {nn : Nat} {ds : List Deferred} {P : Program} {ops : Array Oper} {rest : List Oper} {o : Oper} {Q : Exit → Act → World → Prop} {n d : Nat} {f : Fr} {w w' : World}
theorem i_k (hF : AF F) (v : Value) (w' : World) (hg : o.guard = none) (hd : o.dst = some d) (hk : Nat.blt d n = true) (hnd : ∀ c, o.op ≠ .defer c) (hrun : (execOp (evn n f) o).run P w = .ok (.value v) w') (h : WI F nn ds P ops Q rest n (upd f d v) w') : WI F nn ds P ops Q (o :: rest) n f w := by
  refine ⟨wpListIn_plain hg fun K hK => ?_⟩
  refine ⟨fun g _ => hF.fn g, ?_⟩
  rw [Oper.semAt_plain F _ o hnd, eval_mkd, hrun, Oper.uponIn_value, hd, put_mkd hk]
  exact hK _ _ h.out
theorem i_u (hF : AF F) (w' : World) (hg : o.guard = none) (hd : o.dst = none) (hnd : ∀ c, o.op ≠ .defer c) (hrun : (execOp (evn n f) o).run P w = .ok .skip w') (h : WI F nn ds P ops Q rest n f w') : WI F nn ds P ops Q (o :: rest) n f w := by
  refine ⟨wpListIn_plain hg fun K hK => ?_⟩
  refine ⟨fun g _ => hF.fn g, ?_⟩
  rw [Oper.semAt_plain F _ o hnd, eval_mkd, hrun, Oper.uponIn_skip, hd]
  exact hK _ _ h.out
theorem i_v {s : Sem Value} {v : Value} (hF : AF F) (hg : o.guard = none) (hd : o.dst = some d) (hk : Nat.blt d n = true) (hnd : ∀ c, o.op ≠ .defer c) (hs : execOp (evn n f) o = (s >>= fun v => pure (Next.value v))) (hrun : s.run P w = .ok v w') (h : WI F nn ds P ops Q rest n (upd f d v) w') : WI F nn ds P ops Q (o :: rest) n f w :=
  i_k hF v w' hg hd hk hnd (by rw [hs]; exact run_val hrun) h
theorem i_s {s : Sem Unit} (hF : AF F) (hg : o.guard = none) (hd : o.dst = none) (hnd : ∀ c, o.op ≠ .defer c) (hs : execOp (evn n f) o = (s >>= fun _ => pure Next.skip)) (hrun : s.run P w = .ok () w') (h : WI F nn ds P ops Q rest n f w') : WI F nn ds P ops Q (o :: rest) n f w :=
  i_u hF w' hg hd hnd (by rw [hs]; exact run_unit hrun) h
theorem i_nil (h : Q .normal (mkd n f ds) w) : WI F nn ds P ops Q [] n f w := ⟨h⟩
theorem i_gyes {dst : Option Nat} {op : Op} {ty : TypeId} {pos : String} {after : Array Edge} {j : Nat} {b : Bool} {e : Nat}
    (hj : (ops[j]?).bind (·.dst) = some e) (he : Nat.blt e n = true) (hf : f e = .bool b)
    (h : WI F nn ds P ops Q (⟨dst, op, ty, pos, after, none⟩ :: rest) n f w) : WI F nn ds P ops Q (⟨dst, op, ty, pos, after, some (j, b)⟩ :: rest) n f w := by
  have hw : Region.wanted (⟨dst, op, ty, pos, after, some (j, b)⟩ : Oper) (yielded ops (mkd n f ds).tmps) = true := by
    have : (mkd n f ds).tmps = (mk n f).tmps := rfl
    rw [this]
    simp [Region.wanted, yielded, hj, get?_mk he, hf]
  have h1 := h.out
  refine ⟨?_⟩
  unfold wpListIn at h1 ⊢
  rw [if_pos hw]
  rw [if_pos (by simp [Region.wanted])] at h1
  exact h1
theorem i_gno (hF : AF F) {dst : Option Nat} {op : Op} {ty : TypeId} {pos : String} {after : Array Edge} {j : Nat} {b : Bool} {e : Nat}
    (hj : (ops[j]?).bind (·.dst) = some e) (he : Nat.blt e n = true) (hf : f e = .bool (!b)) (hd : Nat.blt d n = true)
    (h : WI F nn ds P ops Q rest n (upd f d undef) w) : WI F nn ds P ops Q (⟨some d, op, ty, pos, after, some (j, b)⟩ :: rest) n f w := by
  have hw : Region.wanted (⟨some d, op, ty, pos, after, some (j, b)⟩ : Oper) (yielded ops (mkd n f ds).tmps) = false := by
    have : (mkd n f ds).tmps = (mk n f).tmps := rfl
    rw [this]
    cases b <;> simp [Region.wanted, yielded, hj, get?_mk he, hf]
  refine ⟨?_⟩
  unfold wpListIn
  rw [if_neg (by rw [hw]; simp)]
  refine ⟨fun g _ => hF.fn g, ?_⟩
  rw [put_mkd hd]
  exact h.out
/-- a region without a draw, at a fence -/
theorem i_region {id : Nat} (h : WI F nn ds P ops Q ops.toList n f w) : (Code.region id ops false).wpIn F nn P Q (mkd n f ds) w := wpIn_region_list h.out
theorem y_regionI {id : Nat} (h : WI Fence.wide 9 [] P ops Q ops.toList n f w) : WC P (.region id ops false) Q n f w := ⟨wpIn_wide.1 (wpIn_region_list h.out)⟩
theorem i_wnil (h : WE Q .normal n f w) : WI F nn [] P ops Q [] n f w := ⟨h.out⟩
end
/-- yield is called -/
def YC (P : Program) (y : Value) (args : Array Value) (w : World) (R : Bool → World → Prop) : Prop :=
  ∃ l, y = .func (.yield l) #[] #[] ∧ YieldAt Fence.wide 8 P l args w (fun e w' => ∃ b, e = .returned (.bool b) ∧ R b w')
theorem i_yield {P : Program} {ops : Array Oper} {rest : List Oper} {o : Oper} {Q : Exit → Act → World → Prop} {n d : Nat} {f : Fr} {w : World} {y : Value} {args : Array Value} (hg : o.guard = none) (hd : o.dst = some d) (hk : Nat.blt d n = true) (hnd : ∀ c, o.op ≠ .defer c)
    (hrun : ∀ l, y = .func (.yield l) #[] #[] → (execOp (evn n f) o).run P w = (Instr.yield l args).run P w) (h : YC P y args w fun b w' => WI Fence.wide 9 [] P ops Q rest n (upd f d (.bool b)) w') : WI Fence.wide 9 [] P ops Q (o :: rest) n f w := by
  obtain ⟨l, hy, fn, tmps, assign, body, hyr, hR⟩ := h
  refine ⟨wpListIn_plain hg fun K hK => ?_⟩
  refine ⟨fun g _ => trivial, ?_⟩
  rw [Oper.semAt_plain Fence.wide _ o hnd, eval_mkd, hrun l hy, hyr, Oper.uponIn_round]
  refine ⟨(fun h => nomatch h), hR.mono ?_⟩
  rintro e w' ⟨b, rfl, h⟩
  show K ((mkd n f []).put o.dst (.bool b)) w'
  rw [hd, put_mkd hk]
  exact hK _ _ h.out
theorem YC.mono {P : Program} {y : Value} {args : Array Value} {w : World} {R R' : Bool → World → Prop} (h : YC P y args w R) (hr : ∀ b w', R b w' → R' b w') : YC P y args w R' := by
  obtain ⟨l, hy, fn, tmps, assign, body, hyr, hR⟩ := h
  exact ⟨l, hy, fn, tmps, assign, body, hyr, hR.mono fun e w' ⟨b, h1, h2⟩ => ⟨b, h1, hr _ _ h2⟩⟩
/-- a function that holds a range over a function -/
theorem y_enterM {P : Program} {n : Nat} {w : World} {fid : FuncId} {fn : Func} {c : Code} {args : List Value} {R : Ending → World → Prop} (hf : P.funcs[fid]? = some fn) (hb : fn.body = some c) (hn : fn.ntmps = n) (hl : Nat.ble args.length n = true)
    (h : (∀ f w v, (results fn (mk n f).tmps).run P w = .ok v w → R (.returned v) w → WE (bodyPostM Fence.wide 10 P fn R) .ret n f w ∧ WE (bodyPostM Fence.wide 10 P fn R) .normal n f w) → WC P c (bodyPostM Fence.wide 10 P fn R) n (ini args) w) : Calls P fid args.toArray w R := by
  refine callsIn_wide.1 (callsIn_of_wp_marks (F := Fence.wide) (n := 10) hf hb trivial (wpIn_wide.2 ?_))
  have h2 := (h fun f w v h1 h2 => ⟨⟨⟨v, h1, h2⟩⟩, ⟨⟨v, h1, h2⟩⟩⟩).out
  have hle := Nat.le_of_ble_eq_true hl
  have : ({ tmps := args.toArray ++ Array.replicate (fn.ntmps - args.toArray.size) undef, defers := [] } : Act) = mk n (ini args) := by
    subst hn
    simp only [mk]
    congr 1
    apply Array.ext
    · simp; omega
    · intro i h1 h2
      simp only [Array.getElem_ofFn, ini]
      by_cases hi : i < args.length
      · rw [Array.getElem_append_left (by simpa using hi)]
        simp [List.getD, List.getElem?_eq_getElem hi]
      · rw [Array.getElem_append_right (by simp; omega)]
        simp [List.getD, List.getElem?_eq_none (by omega : args.length ≤ i)]
  rw [this]; exact h2
def cR : Code → Code
  | .seq _ y => y
  | c => c
def cRs (c : Code) : Nat → Code
  | 0 => c
  | k + 1 => cR (cRs c k)
end Go.Proofs.Ytjgijifankaglaa.SX
