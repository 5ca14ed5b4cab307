/- What the document shows of package post. -/
import Derived.Test.YtjgijifankaglaaPE
namespace Go.Proofs.Ytjgijifankaglaa
open Go Go.RowKit Go.Proofs.Ytjgijifankaglaa.SX
set_option linter.unusedVariables false

theorem rd_rowk {w : World} {a : Option Addr} {len cap : Nat} {zs : List Int} {k : IntKind} (h : (a = none ∧ len = 0 ∧ cap = 0 ∧ zs = []) ∨
  ∃ x, a = some x ∧ len ≤ cap ∧ cap ≤ maxLen ∧ zs.length = cap ∧ (∀ i, i < zs.length → w.cell? (x.add i) = some (.int k (zs.getD i 0))) ∧ ∀ n ∈ zs, (Lit.int k n).wf = true) : ∃ xs : List Int, Rd (fun x => .int k x) w ⟨a, len, cap⟩ xs ∧ ∀ x ∈ xs, (Lit.int k x).wf = true := by
  rcases h with ⟨rfl, rfl, rfl, rfl⟩ | ⟨x, rfl, hl, hm, hz, hc, hw⟩
  · exact ⟨[], Rd.nil, fun x hx => by simp at hx⟩
  · refine ⟨zs.take len, ⟨by simp; omega, hl, hm, fun _ => ⟨x, rfl, fun j hj => ?_⟩⟩, fun n hn => hw n (List.mem_of_mem_take hn)⟩
    simp at hj
    rw [hc j (by omega)]
    simp [List.getD, List.getElem?_eq_getElem (show j < zs.length by omega)]
theorem eqlb {p q : Bool} {x y : Operand} {w : World} : (do eqGuard .eql 4 x y (.bool p : Value) (.bool q : Value); binOp .eql 4 (.bool p : Value) (.bool q : Value) : Sem Value).run Try.prog w = .ok (.bool (p == q)) w := by cases p <;> cases q <;> kernel_rfl
theorem neqb {p q : Bool} {x y : Operand} {w : World} : (do eqGuard .neq 4 x y (.bool p : Value) (.bool q : Value); binOp .neq 4 (.bool p : Value) (.bool q : Value) : Sem Value).run Try.prog w = .ok (.bool (p != q)) w := by cases p <;> cases q <;> kernel_rfl

theorem C13 (w : World) : Calls Try.prog 13 #[] w (fun e w1 => ∃ (r0 : Bool), e = .returned (.bool r0 : Value) ∧ (r0 = true ∧ Below w.heap.size w w1)) := by
  refine F13_sound (fun r0 w1 => r0 = true ∧ Below w.heap.size w w1) w ?_
  unfold F13
  have B : Below w.heap.size w w := Below.refl _ _
  intro v1 e
  have b : Below w.heap.size w v1 := by rw [e]; exact below_row _ _
  have ra := row3 w 1 3 5
  rw [← e] at ra; clear e
  have B := B.trans (b.mono B.size)
  intro v2 e
  have b : Below v1.heap.size v1 v2 := by rw [e]; exact below_row _ _
  have rb := row3 v1 3 4 5
  rw [← e] at rb; clear e
  have B := B.trans (b.mono B.size)
  have ra := ra.below b
  refine (C16 ra rb (by decide)).mono ?_
  rintro _ v3 ⟨s_o1, rfl, o1, b⟩
  have B := B.trans (b.mono B.size)
  have ra := ra.below b
  have rb := rb.below b
  rw [ev_and] at o1
  have o1 := o1.rd
  refine ⟨_, rfl, ?_⟩
  intro v4 e
  have b : Below v3.heap.size v3 v4 := by rw [e]; exact below_row _ _
  have r1 := row2 v3 3 5
  rw [← e] at r1; clear e
  have B := B.trans (b.mono B.size)
  have ra := ra.below b
  have rb := rb.below b
  have o1 := o1.below b
  refine (C23 o1 r1).mono ?_
  rintro _ v6 ⟨t105, rfl, q, b⟩
  have B := B.trans (b.mono B.size)
  have ra := ra.below b
  have rb := rb.below b
  have o1 := o1.below b
  have r1 := r1.below b
  have q := q.trans (decide_eq_true (rfl)); subst q
  refine ⟨_, rfl, ?_⟩
  refine (C17 ra rb (by decide)).mono ?_
  rintro _ v7 ⟨s_o2, rfl, o2, b⟩
  have B := B.trans (b.mono B.size)
  have ra := ra.below b
  have rb := rb.below b
  have o1 := o1.below b
  have r1 := r1.below b
  rw [ev_or] at o2
  have o2 := o2.rd
  refine ⟨_, rfl, ?_⟩
  intro v8 e
  have b : Below v7.heap.size v7 v8 := by rw [e]; exact below_row _ _
  have r2 := row4 v7 1 3 4 5
  rw [← e] at r2; clear e
  have B := B.trans (b.mono B.size)
  have ra := ra.below b
  have rb := rb.below b
  have o1 := o1.below b
  have r1 := r1.below b
  have o2 := o2.below b
  refine (C23 o2 r2).mono ?_
  rintro _ v10 ⟨t109, rfl, q, b⟩
  have B := B.trans (b.mono B.size)
  have ra := ra.below b
  have rb := rb.below b
  have o1 := o1.below b
  have r1 := r1.below b
  have o2 := o2.below b
  have r2 := r2.below b
  have q := q.trans (decide_eq_true (rfl)); subst q
  refine ⟨_, rfl, ?_⟩
  refine (C18 ra rb (by decide)).mono ?_
  rintro _ v11 ⟨s_o3, rfl, o3, b⟩
  have B := B.trans (b.mono B.size)
  have ra := ra.below b
  have rb := rb.below b
  have o1 := o1.below b
  have r1 := r1.below b
  have o2 := o2.below b
  have r2 := r2.below b
  rw [ev_not] at o3
  have o3 := o3.rd
  refine ⟨_, rfl, ?_⟩
  intro v12 e
  have b : Below v11.heap.size v11 v12 := by rw [e]; exact below_row _ _
  have r3 := row1 v11 1
  rw [← e] at r3; clear e
  have B := B.trans (b.mono B.size)
  have ra := ra.below b
  have rb := rb.below b
  have o1 := o1.below b
  have r1 := r1.below b
  have o2 := o2.below b
  have r2 := r2.below b
  have o3 := o3.below b
  refine (C23 o3 r3).mono ?_
  rintro _ v14 ⟨t113, rfl, q, b⟩
  have B := B.trans (b.mono B.size)
  have ra := ra.below b
  have rb := rb.below b
  have o1 := o1.below b
  have r1 := r1.below b
  have o2 := o2.below b
  have r2 := r2.below b
  have o3 := o3.below b
  have r3 := r3.below b
  have q := q.trans (decide_eq_true (rfl)); subst q
  refine ⟨_, rfl, ?_⟩
  refine (C27 ra 3 (by decide)).mono ?_
  rintro _ v15 ⟨_, rfl, rfl, b⟩
  have B := B.trans (b.mono B.size)
  have ra := ra.below b
  have rb := rb.below b
  refine ⟨_, rfl, ?_⟩
  refine (C19 ra 4 (by decide)).mono ?_
  rintro _ v16 ⟨s_c, _, rfl, oc, rfl, b⟩
  have B := B.trans (b.mono B.size)
  have ra := ra.below b
  have rb := rb.below b
  rw [ev_add] at oc
  have oc := oc.rd
  refine ⟨_, _, rfl, ?_⟩
  refine (C20 ra 4 (by decide)).mono ?_
  rintro _ v17 ⟨s_d, _, rfl, od, rfl, b⟩
  have B := B.trans (b.mono B.size)
  have ra := ra.below b
  have rb := rb.below b
  have oc := oc.below b
  rw [ev_tak] at od
  have od := od.rd
  refine ⟨_, _, rfl, ?_⟩
  intro v18 e
  have b : Below v17.heap.size v17 v18 := by rw [e]; exact below_row _ _
  have rp := row3 v17 1 3 4294967295
  rw [← e] at rp; clear e
  have B := B.trans (b.mono B.size)
  have ra := ra.below b
  have rb := rb.below b
  have oc := oc.below b
  have od := od.below b
  refine (C31 (b := ⟨none, 0, 0⟩) (bs := []) Rd.nil rp (by intro x hx; simp at hx; omega) (by decide) (by decide)).mono ?_
  rintro _ v19 ⟨s_e, _, rfl, oe, rfl, b⟩
  have B := B.trans (b.mono B.size)
  have ra := ra.below b
  have rb := rb.below b
  have oc := oc.below b
  have od := od.below b
  have rp := rp.below b
  rw [ev_put] at oe
  have oe := oe.rd
  refine ⟨_, _, rfl, ?_⟩
  intro v20 e
  have b : Below v19.heap.size v19 v20 := by rw [e]; exact below_row _ _
  have rg := row4b v19 2 1 0 9
  rw [← e] at rg; clear e
  have B := B.trans (b.mono B.size)
  have ra := ra.below b
  have rb := rb.below b
  have oc := oc.below b
  have od := od.below b
  have rp := rp.below b
  have oe := oe.below b
  refine (C33 rg (by intro x hx; simp at hx; omega) (by decide)).mono ?_
  rintro _ v21 ⟨s_f, _, rfl, of, rfl, b⟩
  have B := B.trans (b.mono B.size)
  have ra := ra.below b
  have rb := rb.below b
  have oc := oc.below b
  have od := od.below b
  have rp := rp.below b
  have oe := oe.below b
  have rg := rg.below b
  rw [ev_get] at of
  have of := of.rd
  refine ⟨_, _, rfl, ?_⟩
  intro v22 e
  have b : Below v21.heap.size v21 v22 := by rw [e]; exact below_row _ _
  have rz := row2 v21 1 1
  rw [← e] at rz; clear e
  have B := B.trans (b.mono B.size)
  have ra := ra.below b
  have rb := rb.below b
  have oc := oc.below b
  have od := od.below b
  have rp := rp.below b
  have oe := oe.below b
  have rg := rg.below b
  have of := of.below b
  refine (C16 rz rb (by decide)).mono ?_
  rintro _ v23 ⟨s_g, rfl, og, b⟩
  have B := B.trans (b.mono B.size)
  have ra := ra.below b
  have rb := rb.below b
  have oc := oc.below b
  have od := od.below b
  have rp := rp.below b
  have oe := oe.below b
  have rg := rg.below b
  have of := of.below b
  have rz := rz.below b
  rw [ev_no] at og
  have og := og.len
  refine ⟨_, rfl, ?_⟩
  intro v24 e
  have b : Below v23.heap.size v23 v24 := by rw [e]; exact below_row _ _
  have rc := row4 v23 1 3 4 5
  rw [← e] at rc; clear e
  have B := B.trans (b.mono B.size)
  have ra := ra.below b
  have rb := rb.below b
  have oc := oc.below b
  have od := od.below b
  have rp := rp.below b
  have oe := oe.below b
  have rg := rg.below b
  have of := of.below b
  have rz := rz.below b
  refine (C23 oc rc).mono ?_
  rintro _ v26 ⟨t125, rfl, q, b⟩
  have B := B.trans (b.mono B.size)
  have ra := ra.below b
  have rb := rb.below b
  have oc := oc.below b
  have od := od.below b
  have rp := rp.below b
  have oe := oe.below b
  have rg := rg.below b
  have of := of.below b
  have rz := rz.below b
  have rc := rc.below b
  have q := q.trans (decide_eq_true (rfl)); subst q
  refine ⟨_, rfl, ?_⟩
  refine ⟨fun _ => ?_, (fun h => nomatch h)⟩
  refine (C23 od ra).mono ?_
  rintro _ v28 ⟨t127, rfl, q, b⟩
  have B := B.trans (b.mono B.size)
  have ra := ra.below b
  have rb := rb.below b
  have oc := oc.below b
  have od := od.below b
  have rp := rp.below b
  have oe := oe.below b
  have rg := rg.below b
  have of := of.below b
  have rz := rz.below b
  have rc := rc.below b
  have q := q.trans (decide_eq_true (rfl)); subst q
  refine ⟨_, rfl, ?_⟩
  refine ⟨fun _ => ?_, (fun h => nomatch h)⟩
  intro v29 e
  have b : Below v28.heap.size v28 v29 := by rw [e]; exact below_row _ _
  have rf := row2 v28 1 2
  rw [← e] at rf; clear e
  have B := B.trans (b.mono B.size)
  have ra := ra.below b
  have rb := rb.below b
  have oc := oc.below b
  have od := od.below b
  have rp := rp.below b
  have oe := oe.below b
  have rg := rg.below b
  have of := of.below b
  have rz := rz.below b
  have rc := rc.below b
  refine (C23 of rf).mono ?_
  rintro _ v31 ⟨t130, rfl, q, b⟩
  have B := B.trans (b.mono B.size)
  have ra := ra.below b
  have rb := rb.below b
  have oc := oc.below b
  have od := od.below b
  have rp := rp.below b
  have oe := oe.below b
  have rg := rg.below b
  have of := of.below b
  have rz := rz.below b
  have rc := rc.below b
  have rf := rf.below b
  have q := q.trans (decide_eq_true (rfl)); subst q
  refine ⟨_, rfl, ?_⟩
  unfold F13_j1 F13_j2
  rw [ev_has, ev_add, ev_tak, ev_put, ev_get]
  refine ⟨fun _ => ⟨fun _ => ⟨fun _ => ⟨fun _ => ⟨fun _ => ⟨fun _ => ⟨fun _ => ⟨fun _ => ?_, (fun h => nomatch h)⟩, (fun h => nomatch h)⟩, (fun h => nomatch h)⟩, (fun h => nomatch h)⟩, (fun h => nomatch h)⟩, (fun h => nomatch h)⟩, (fun h => nomatch h)⟩, (fun h => nomatch h)⟩
  refine ⟨_, rd_str oe, fun _ => ⟨fun _ => ⟨?_, B⟩, fun h => absurd rfl h⟩, fun h => absurd ?_ h⟩
  · simp only [List.length_nil] at og
    simp; omega
  · rw [show strOfNums [3, 1, 1, 251, 255, 255, 255, 15] = ByteArray.mk #[3, 1, 1, 251, 255, 255, 255, 15] from rfl]
end Go.Proofs.Ytjgijifankaglaa
