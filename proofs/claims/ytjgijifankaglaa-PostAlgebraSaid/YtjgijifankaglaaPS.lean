/- PostSets. -/
import Derived.Test.YtjgijifankaglaaPF
import Derived.Test.YtjgijifankaglaaGP3
namespace Go.Proofs.Ytjgijifankaglaa
open Go Go.RowKit Go.Proofs.Ytjgijifankaglaa.SX
set_option linter.unusedVariables false

theorem opt_len {b : Bool} {x : Int} : (opt b x).length ≤ 1 := by cases b <;> simp [opt]
theorem jn_len {o b t : Bool} : ∀ (a c : List Int), (jn o b t a c).length ≤ a.length + c.length := by
  intro a c
  induction a, c using jn.induct with
  | case1 => rw [jn]; simp
  | case2 y ys ih => rw [jn, List.length_append]; have := opt_len (b := t) (x := y); simp at ih ⊢; omega
  | case3 z xs ih => rw [jn, List.length_append]; have := opt_len (b := o) (x := z); simp at ih ⊢; omega
  | case4 z xs y ys hxy ih => rw [jn, if_pos hxy, List.length_append]; have := opt_len (b := o) (x := z); simp at ih ⊢; omega
  | case5 z xs y ys hxy hyx ih => rw [jn, if_neg hxy, if_pos hyx, List.length_append]; have := opt_len (b := t) (x := y); simp at ih ⊢; omega
  | case6 z xs y ys hxy hyx ih => rw [jn, if_neg hxy, if_neg hyx, List.length_append]; have := opt_len (b := b) (x := z); simp at ih ⊢; omega
theorem joi_len {o b t : Bool} (a c : List Int) : (joi o b t a c).length ≤ a.length + c.length := by
  unfold joi
  split
  · exact jn_len a c
  · simp
theorem takS_len {l : List Int} {n : Int} : (takS l n).1.length ≤ l.length := by
  unfold takS
  split
  · exact List.length_filter_le _ _
  · simp
theorem F3_spec {w : World} {a b : Sl} {xs ys : List Int} {n : Int} (ha : Rd E4 w a xs) (hb : Rd E4 w b ys) : F3 a b n (fun r0 w1 => r0 = true ∧ Below w.heap.size w w1) w := by
  unfold F3
  refine (C13 w).mono ?_
  rintro _ w5 ⟨_, rfl, rfl, b5⟩
  refine ⟨_, rfl, (C14 (ha.below b5)).mono ?_⟩
  rintro _ w7 ⟨sa, rfl, ra, hw⟩
  rw [hw]; clear hw
  refine ⟨_, rfl, (C14 (hb.below b5)).mono ?_⟩
  rintro _ w9 ⟨sb, rfl, rb, hw⟩
  rw [hw]; clear hw
  have hA : (xs.take 400).length ≤ 400 := by simp; omega
  have hB : (ys.take 400).length ≤ 400 := by simp; omega
  generalize xs.take 400 = A at ra hA
  generalize ys.take 400 = Y at rb hB
  refine ⟨_, rfl, (C15 ra (by omega)).mono ?_⟩
  rintro _ w11 ⟨sx, rfl, lx, b11⟩
  refine ⟨_, rfl, (C15 (rb.below b11) (by omega)).mono ?_⟩
  rintro _ w13 ⟨sy, rfl, ly, b13⟩
  have B := b5.trans (b11.mono b5.size)
  have B := B.trans (b13.mono B.size)
  have ra := (ra.below b11).below b13
  have rb := (rb.below b11).below b13
  have lx := lx.below b13
  clear b5 b11 b13 ha hb
  refine ⟨_, rfl, ⟨fun i wr => ∃ j : Nat, i = (j : Int) ∧ j ≤ 2 ∧ Below w13.heap.size w13 wr, fun i _ => (2 - i).toNat, ⟨0, rfl, by omega, Below.refl _ _⟩, ?_⟩⟩
  rintro _ v0 ⟨j, rfl, hj, bb⟩
  unfold F3_l1
  refine ⟨fun hlt => ?_, fun hge => ⟨rfl, B.trans (bb.mono B.size)⟩⟩
  have ra := ra.below bb
  have rb := rb.below bb
  have lx := lx.below bb
  have ly := ly.below bb
  have C : Below v0.heap.size v0 v0 := Below.refl _ _
  refine (C16 (lx.below C).rd (ly.below C).rd (by omega)).mono ?_
  rintro _ v1 ⟨s_o1, rfl, o1, b⟩
  have z1 := b.size
  have C := C.trans (b.mono C.size)
  refine ⟨_, rfl, ?_⟩
  have k_o1 := fun k hk => (o1.blk_ge k hk).2
  refine (C17 (lx.below C).rd (ly.below C).rd (by omega)).mono ?_
  rintro _ v2 ⟨s_o2, rfl, o2, b⟩
  have z2 := b.size
  have C := C.trans (b.mono C.size)
  have o1 := o1.below b
  refine ⟨_, rfl, ?_⟩
  have k_o2 := fun k hk => (o2.blk_ge k hk).2
  refine (C18 (lx.below C).rd (ly.below C).rd (by omega)).mono ?_
  rintro _ v3 ⟨s_o3, rfl, o3, b⟩
  have z3 := b.size
  have C := C.trans (b.mono C.size)
  have o1 := o1.below b
  have o2 := o2.below b
  refine ⟨_, rfl, ?_⟩
  have k_o3 := fun k hk => (o3.blk_ge k hk).2
  refine (C19 (lx.below C).rd n (by omega)).mono ?_
  rintro _ v4 ⟨s_o4, _, rfl, o4, rfl, b⟩
  have z4 := b.size
  have C := C.trans (b.mono C.size)
  have o1 := o1.below b
  have o2 := o2.below b
  have o3 := o3.below b
  refine ⟨_, _, rfl, ?_⟩
  have k_o4 := fun k hk => (o4.blk_ge k hk).2
  refine (C20 (lx.below C).rd n (by omega)).mono ?_
  rintro _ v5 ⟨s_o5, _, rfl, o5, rfl, b⟩
  have z5 := b.size
  have C := C.trans (b.mono C.size)
  have o1 := o1.below b
  have o2 := o2.below b
  have o3 := o3.below b
  have o4 := o4.below b
  refine ⟨_, _, rfl, ?_⟩
  have k_o5 := fun k hk => (o5.blk_ge k hk).2
  refine (C21 (ra.below C) n (by omega)).mono ?_
  rintro _ v6 ⟨s_p1, _, rfl, p1, rfl, b⟩
  have z6 := b.size
  have C := C.trans (b.mono C.size)
  have o1 := o1.below b
  have o2 := o2.below b
  have o3 := o3.below b
  have o4 := o4.below b
  have o5 := o5.below b
  refine ⟨_, _, rfl, ?_⟩
  refine (C22 (ra.below C) n (by omega)).mono ?_
  rintro _ v7 ⟨s_p2, _, rfl, p2, rfl, b⟩
  have z7 := b.size
  have C := C.trans (b.mono C.size)
  have o1 := o1.below b
  have o2 := o2.below b
  have o3 := o3.below b
  have o4 := o4.below b
  have o5 := o5.below b
  have p1 := p1.below b
  refine ⟨_, _, rfl, ?_⟩
  refine (C24 (ra.below C) (rb.below C) (by omega)).mono ?_
  rintro _ v8 ⟨s_q1, rfl, q1, b⟩
  have z8 := b.size
  have C := C.trans (b.mono C.size)
  have o1 := o1.below b
  have o2 := o2.below b
  have o3 := o3.below b
  have o4 := o4.below b
  have o5 := o5.below b
  have p1 := p1.below b
  have p2 := p2.below b
  refine ⟨_, rfl, ?_⟩
  refine (C23 o1.rd q1.rd).mono ?_
  rintro _ v9 ⟨_, rfl, q, b⟩
  have q := q.trans (decide_eq_true rfl); subst q
  have z9 := b.size
  have C := C.trans (b.mono C.size)
  have o1 := o1.below b
  have o2 := o2.below b
  have o3 := o3.below b
  have o4 := o4.below b
  have o5 := o5.below b
  have p1 := p1.below b
  have p2 := p2.below b
  have q1 := q1.below b
  refine ⟨_, rfl, ?_⟩
  refine ⟨fun _ => ?_, (fun h => nomatch h)⟩
  refine (C25 (ra.below C) (rb.below C) (by omega)).mono ?_
  rintro _ v10 ⟨s_q2, rfl, q2, b⟩
  have z10 := b.size
  have C := C.trans (b.mono C.size)
  have o1 := o1.below b
  have o2 := o2.below b
  have o3 := o3.below b
  have o4 := o4.below b
  have o5 := o5.below b
  have p1 := p1.below b
  have p2 := p2.below b
  have q1 := q1.below b
  refine ⟨_, rfl, ?_⟩
  refine (C23 o2.rd q2.rd).mono ?_
  rintro _ v11 ⟨_, rfl, q, b⟩
  have q := q.trans (decide_eq_true rfl); subst q
  have z11 := b.size
  have C := C.trans (b.mono C.size)
  have o1 := o1.below b
  have o2 := o2.below b
  have o3 := o3.below b
  have o4 := o4.below b
  have o5 := o5.below b
  have p1 := p1.below b
  have p2 := p2.below b
  have q1 := q1.below b
  have q2 := q2.below b
  refine ⟨_, rfl, ?_⟩
  refine ⟨fun _ => ?_, (fun h => nomatch h)⟩
  refine (C26 (ra.below C) (rb.below C) (by omega)).mono ?_
  rintro _ v12 ⟨s_q3, rfl, q3, b⟩
  have z12 := b.size
  have C := C.trans (b.mono C.size)
  have o1 := o1.below b
  have o2 := o2.below b
  have o3 := o3.below b
  have o4 := o4.below b
  have o5 := o5.below b
  have p1 := p1.below b
  have p2 := p2.below b
  have q1 := q1.below b
  have q2 := q2.below b
  refine ⟨_, rfl, ?_⟩
  refine (C23 o3.rd q3.rd).mono ?_
  rintro _ v13 ⟨_, rfl, q, b⟩
  have q := q.trans (decide_eq_true rfl); subst q
  have z13 := b.size
  have C := C.trans (b.mono C.size)
  have o1 := o1.below b
  have o2 := o2.below b
  have o3 := o3.below b
  have o4 := o4.below b
  have o5 := o5.below b
  have p1 := p1.below b
  have p2 := p2.below b
  have q1 := q1.below b
  have q2 := q2.below b
  have q3 := q3.below b
  refine ⟨_, rfl, ?_⟩
  unfold F3_j2
  refine (C23 o4.rd p1.rd).mono ?_
  rintro _ v14 ⟨_, rfl, q, b⟩
  have q := q.trans (decide_eq_true rfl); subst q
  have z14 := b.size
  have C := C.trans (b.mono C.size)
  have o1 := o1.below b
  have o2 := o2.below b
  have o3 := o3.below b
  have o4 := o4.below b
  have o5 := o5.below b
  have p1 := p1.below b
  have p2 := p2.below b
  have q1 := q1.below b
  have q2 := q2.below b
  have q3 := q3.below b
  refine ⟨_, rfl, ?_⟩
  refine ⟨fun _ => ?_, (fun h => nomatch h)⟩
  refine (C23 o5.rd p2.rd).mono ?_
  rintro _ v15 ⟨_, rfl, q, b⟩
  have q := q.trans (decide_eq_true rfl); subst q
  have z15 := b.size
  have C := C.trans (b.mono C.size)
  have o1 := o1.below b
  have o2 := o2.below b
  have o3 := o3.below b
  have o4 := o4.below b
  have o5 := o5.below b
  have p1 := p1.below b
  have p2 := p2.below b
  have q1 := q1.below b
  have q2 := q2.below b
  have q3 := q3.below b
  refine ⟨_, rfl, ?_⟩
  refine ⟨fun _ => ?_, (fun h => nomatch h)⟩
  refine ⟨_, eqlb, fun _ => ?_, fun h => absurd h (by simp)⟩
  refine ⟨_, eqlb, ?_⟩
  unfold F3_j3
  refine ⟨(fun h => nomatch h), fun _ => ⟨fun h => absurd h (by simp), fun _ => ?_⟩⟩
  refine (C27 (lx.below C).rd n (by omega)).mono ?_
  rintro _ v16 ⟨_, rfl, rfl, b⟩
  have z16 := b.size
  have C := C.trans (b.mono C.size)
  have o1 := o1.below b
  have o2 := o2.below b
  have o3 := o3.below b
  have o4 := o4.below b
  have o5 := o5.below b
  refine ⟨_, rfl, ?_⟩
  refine (C28 (ra.below C) n).mono ?_
  rintro _ v17 ⟨_, rfl, rfl, b⟩
  have z17 := b.size
  have C := C.trans (b.mono C.size)
  have o1 := o1.below b
  have o2 := o2.below b
  have o3 := o3.below b
  have o4 := o4.below b
  have o5 := o5.below b
  refine ⟨_, rfl, ?_⟩
  refine ⟨_, neqb, fun h => absurd h (by simp), fun _ => ?_⟩
  have l1 := joi_len (o := false) (b := true) (t := false) A Y
  have l2 := joi_len (o := true) (b := true) (t := true) A Y
  have l3 := joi_len (o := true) (b := false) (t := false) A Y
  have l4 := addS_len (l := A) (n := n)
  have l5 := takS_len (l := A) (n := n)
  refine (C29 o1 (by omega)).mono ?_
  rintro _ v18 ⟨rfl, g⟩
  have b := g.toBelow C.size (fun k hk => by have := (o1.blk_ge k hk).1; omega)
  have C := C.trans b
  have o2 := g.own o2 (fun k hk hk2 => by have := (o2.blk_ge k hk).1; have := k_o1 k hk2; omega)
  have o3 := g.own o3 (fun k hk hk2 => by have := (o3.blk_ge k hk).1; have := k_o1 k hk2; omega)
  have o4 := g.own o4 (fun k hk hk2 => by have := (o4.blk_ge k hk).1; have := k_o1 k hk2; omega)
  have o5 := g.own o5 (fun k hk hk2 => by have := (o5.blk_ge k hk).1; have := k_o1 k hk2; omega)
  refine ⟨rfl, ?_⟩
  refine (C29 o2 (by omega)).mono ?_
  rintro _ v19 ⟨rfl, g⟩
  have b := g.toBelow C.size (fun k hk => by have := (o2.blk_ge k hk).1; omega)
  have C := C.trans b
  have o3 := g.own o3 (fun k hk hk2 => by have := (o3.blk_ge k hk).1; have := k_o2 k hk2; omega)
  have o4 := g.own o4 (fun k hk hk2 => by have := (o4.blk_ge k hk).1; have := k_o2 k hk2; omega)
  have o5 := g.own o5 (fun k hk hk2 => by have := (o5.blk_ge k hk).1; have := k_o2 k hk2; omega)
  refine ⟨rfl, ?_⟩
  refine (C29 o3 (by omega)).mono ?_
  rintro _ v20 ⟨rfl, g⟩
  have b := g.toBelow C.size (fun k hk => by have := (o3.blk_ge k hk).1; omega)
  have C := C.trans b
  have o4 := g.own o4 (fun k hk hk2 => by have := (o4.blk_ge k hk).1; have := k_o3 k hk2; omega)
  have o5 := g.own o5 (fun k hk hk2 => by have := (o5.blk_ge k hk).1; have := k_o3 k hk2; omega)
  refine ⟨rfl, ?_⟩
  refine (C29 o4 (by omega)).mono ?_
  rintro _ v21 ⟨rfl, g⟩
  have b := g.toBelow C.size (fun k hk => by have := (o4.blk_ge k hk).1; omega)
  have C := C.trans b
  have o5 := g.own o5 (fun k hk hk2 => by have := (o5.blk_ge k hk).1; have := k_o4 k hk2; omega)
  refine ⟨rfl, ?_⟩
  refine (C29 o5 (by omega)).mono ?_
  rintro _ v22 ⟨rfl, g⟩
  have b := g.toBelow C.size (fun k hk => by have := (o5.blk_ge k hk).1; omega)
  have C := C.trans b
  refine ⟨rfl, ?_⟩
  refine (C30 (lx.below C) (ra.below C) (by omega)).mono ?_
  rintro _ v23 ⟨_, rfl, rfl, b⟩
  have z23 := b.size
  have C := C.trans (b.mono C.size)
  refine ⟨_, rfl, ?_⟩
  refine (C30 (ly.below C) (rb.below C) (by omega)).mono ?_
  rintro _ v24 ⟨_, rfl, rfl, b⟩
  have z24 := b.size
  have C := C.trans (b.mono C.size)
  refine ⟨_, rfl, ?_⟩
  refine ⟨(fun h => nomatch h), fun _ => ⟨(fun h => nomatch h), fun _ => ?_⟩⟩
  rw [w_i64 (by omega) (by omega)]
  exact ⟨⟨j + 1, by omega, by omega, bb.trans (C.mono bb.size)⟩, by (try dsimp only); omega⟩
end Go.Proofs.Ytjgijifankaglaa
