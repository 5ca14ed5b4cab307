/- PostAlgebra. -/
import Derived.Test.YtjgijifankaglaaPO
import Derived.Test.YtjgijifankaglaaPM
import Derived.Test.YtjgijifankaglaaPS
import Derived.Test.YtjgijifankaglaaPT
import Derived.Test.YtjgijifankaglaaGP5
namespace Go.Proofs.Ytjgijifankaglaa
open Go Go.RowKit Go.Proofs.Ytjgijifankaglaa.SX
set_option linter.unusedVariables false

theorem F5_spec {w : World} {a b : Sl} {xs ys : List Int} {n : Int} (ha : Rd E4 w a xs) (hb : Rd E4 w b ys) (hu : u32s xs) : F5 a b n (fun r0 w1 => r0 = true ∧ Below w.heap.size w w1) w := by
  unfold F5
  refine (C13 w).mono ?_
  rintro _ w5 ⟨_, rfl, rfl, b5⟩
  refine ⟨_, rfl, (C14 (ha.below b5)).mono ?_⟩
  rintro _ w7 ⟨sa, rfl, ra, hw⟩
  rw [hw]; clear hw
  refine ⟨_, rfl, (C14 (hb.below b5)).mono ?_⟩
  rintro _ w9 ⟨sb, rfl, rb, hw⟩
  rw [hw]; clear hw
  have hA : (xs.take 400).length ≤ 400 := by simp; omega
  have hB : (ys.take 400).length ≤ 400 := by simp; omega
  have hu : u32s (xs.take 400) := fun x hx => hu x (List.mem_of_mem_take hx)
  generalize xs.take 400 = A at ra hA hu
  generalize ys.take 400 = Y at rb hB
  refine ⟨_, rfl, (C35 ra).mono ?_⟩
  rintro _ w11 ⟨_, rfl, rfl, b11⟩
  refine ⟨_, rfl, (C35 (rb.below b11)).mono ?_⟩
  rintro _ v0 ⟨_, rfl, rfl, b13⟩
  have B := b5.trans (b11.mono b5.size)
  have B := B.trans (b13.mono B.size)
  have ra := (ra.below b11).below b13
  have rb := (rb.below b11).below b13
  clear b5 b11 b13 ha hb
  refine ⟨_, rfl, (fun h => nomatch h), fun _ => ⟨fun _ => ⟨rfl, B⟩, fun hra => ⟨fun _ => ⟨rfl, B⟩, fun hrb => ?_⟩⟩⟩
  have ua := rise_up hra
  have ub := rise_up hrb
  have C : Below v0.heap.size v0 v0 := Below.refl _ _
  have l1 := joi_len (o := false) (b := true) (t := false) A Y
  have l2 := joi_len (o := true) (b := false) (t := false) A Y
  refine (C16 (ra.below C) (rb.below C) (by omega)).mono ?_
  rintro _ v1 ⟨s_an, rfl, an, b⟩
  have C := C.trans (b.mono C.size)
  refine ⟨_, rfl, ?_⟩
  refine (C18 (ra.below C) (rb.below C) (by omega)).mono ?_
  rintro _ v2 ⟨s_no, rfl, no, b⟩
  have C := C.trans (b.mono C.size)
  have an := an.below b
  refine ⟨_, rfl, ?_⟩
  refine (C17 an.rd no.rd (by omega)).mono ?_
  rintro _ v3 ⟨s_o1, rfl, o1, b⟩
  have C := C.trans (b.mono C.size)
  have an := an.below b
  have no := no.below b
  refine ⟨_, rfl, ?_⟩
  refine (C23 o1.rd (ra.below C)).mono ?_
  rintro _ v4 ⟨_, rfl, q, b⟩
  have q := q.trans (decide_eq_true (alg1 ua ub)); subst q
  have C := C.trans (b.mono C.size)
  have an := an.below b
  have no := no.below b
  have o1 := o1.below b
  refine ⟨_, rfl, ?_⟩
  refine ⟨(fun h => nomatch h), fun _ => ?_⟩
  refine (C16 (rb.below C) (ra.below C) (by omega)).mono ?_
  rintro _ v5 ⟨s_o2, rfl, o2, b⟩
  have C := C.trans (b.mono C.size)
  have an := an.below b
  have no := no.below b
  refine ⟨_, rfl, ?_⟩
  refine (C23 o2.rd an.rd).mono ?_
  rintro _ v6 ⟨_, rfl, q, b⟩
  have q := q.trans (decide_eq_true (alg2 ua ub)); subst q
  have C := C.trans (b.mono C.size)
  have an := an.below b
  have no := no.below b
  have o2 := o2.below b
  refine ⟨_, rfl, ?_⟩
  refine ⟨(fun h => nomatch h), fun _ => ?_⟩
  refine (C17 (ra.below C) (rb.below C) (by omega)).mono ?_
  rintro _ v7 ⟨s_o3, rfl, o3, b⟩
  have C := C.trans (b.mono C.size)
  have an := an.below b
  have no := no.below b
  refine ⟨_, rfl, ?_⟩
  refine (C17 (rb.below C) (ra.below C) (by omega)).mono ?_
  rintro _ v8 ⟨s_o4, rfl, o4, b⟩
  have C := C.trans (b.mono C.size)
  have an := an.below b
  have no := no.below b
  have o3 := o3.below b
  refine ⟨_, rfl, ?_⟩
  refine (C23 o3.rd o4.rd).mono ?_
  rintro _ v9 ⟨_, rfl, q, b⟩
  have q := q.trans (decide_eq_true (alg3 ua ub)); subst q
  have C := C.trans (b.mono C.size)
  have an := an.below b
  have no := no.below b
  have o3 := o3.below b
  have o4 := o4.below b
  refine ⟨_, rfl, ?_⟩
  refine ⟨(fun h => nomatch h), fun _ => ?_⟩
  refine (C18 (ra.below C) no.rd (by omega)).mono ?_
  rintro _ v10 ⟨s_o5, rfl, o5, b⟩
  have C := C.trans (b.mono C.size)
  have an := an.below b
  have no := no.below b
  refine ⟨_, rfl, ?_⟩
  refine (C23 o5.rd an.rd).mono ?_
  rintro _ v11 ⟨_, rfl, q, b⟩
  have q := q.trans (decide_eq_true (alg4 ua ub)); subst q
  have C := C.trans (b.mono C.size)
  have an := an.below b
  have no := no.below b
  have o5 := o5.below b
  refine ⟨_, rfl, ?_⟩
  refine ⟨(fun h => nomatch h), fun _ => ?_⟩
  refine (C16 no.rd (rb.below C) (by omega)).mono ?_
  rintro _ v12 ⟨s_o6, rfl, o6, b⟩
  have C := C.trans (b.mono C.size)
  have an := an.below b
  have no := no.below b
  refine ⟨_, rfl, ?_⟩
  rw [alg5 ua ub] at o6
  have e6 := o6.len
  simp only [List.length_nil] at e6
  refine ⟨fun h => absurd (by omega) h, fun _ => ?_⟩
  intro v13 e
  have b : Below v12.heap.size v12 v13 := by rw [e]; exact below_row _ _
  have r5 : Rd B8 v13 ⟨some ⟨v12.heap.size, 0, none⟩, 1, 1⟩ [5] := by rw [e]; exact row_u8 v12 [5] (by decide)
  clear e
  have C := C.trans (b.mono C.size)
  have hp : putS [5] A = (5 :: (uv A.length ++ gp (-1) A), true) := by unfold putS; rw [if_pos hra]; rfl
  have hgl := gp_len A (-1) (by omega) (by omega) hu
  have hul := uv_len10 (n := A.length) (by omega)
  have zb := C.size
  refine (C31 r5 (ra.below C) hu (by decide) (by omega)).mono ?_
  rintro _ v14 ⟨s_c, _, rfl, oc, rfl, b⟩
  have zc := b.size
  have C := C.trans (b.mono C.size)
  refine ⟨_, _, rfl, ?_⟩
  rw [hp] at oc ⊢
  dsimp only at oc ⊢
  have hcl := oc.len
  rw [List.length_cons, List.length_append] at hcl
  refine ⟨(fun h => nomatch h), fun _ => ⟨fun h0 => absurd h0 (by omega), fun _ => ?_⟩⟩
  refine ⟨⟨_, _, _⟩, cut_lo (w := v14) ty22 s_c _ 1 rfl (by omega), ?_⟩
  intro v15 e
  have b : Below v14.heap.size v14 v15 := by rw [e]; exact below_row _ _
  have r6 : Rd B8 v15 ⟨some ⟨v14.heap.size, 0, none⟩, 2, 2⟩ [255, 255] := by rw [e]; exact row_u8 v14 [255, 255] (by decide)
  clear e
  have zd := b.size
  have C := C.trans (b.mono C.size)
  have oc := oc.below b
  obtain ⟨s7, v16, r7, rd7, g7⟩ := ap_off oc r6 (by decide) (Nat.le_trans zc zd) (by rw [List.length_append]; simp only [List.length_cons, List.length_nil]; omega)
  have C := C.grown g7 C.size (fun k hk => by have := (oc.blk_ge k hk).1; omega)
  refine ⟨s7, v16, r7, ?_⟩
  clear oc r7 g7 r6 r5
  have hg := get_put (rest := [255, 255]) ua hu (by omega)
  refine (C33 rd7 (bys_append (bys_append (uv_bys _) (gp_bys _ _)) (by intro x hx; simp at hx; omega)) (by rw [List.length_append, List.length_append]; simp only [List.length_cons, List.length_nil]; omega)).mono ?_
  rintro _ v17 ⟨s_8, _, rfl, o8, rfl, b⟩
  have C := C.trans (b.mono C.size)
  refine ⟨_, _, rfl, ?_⟩
  rw [hg] at o8 ⊢
  dsimp only at o8 ⊢
  refine (C23 o8.rd (ra.below C)).mono ?_
  rintro _ v18 ⟨_, rfl, q, b⟩
  have q := q.trans (decide_eq_true (rfl)); subst q
  have C := C.trans (b.mono C.size)
  refine ⟨_, rfl, ?_⟩
  refine ⟨(fun h => nomatch h), fun _ => ?_⟩
  refine ⟨fun h => absurd (by rw [w_i64 (by omega) (by omega)]; omega) h, fun _ => ?_⟩
  have la := addS_len (l := A) (n := n)
  obtain ⟨m1, m2, m3⟩ := addS_up ua n
  obtain ⟨k1, k2, k3⟩ := takS_up m1 n
  have k4 : (takS (addS A n).1 n).2 = true := by rw [k3]; exact decide_eq_true ((m2 n).2 (.inl rfl))
  refine (C19 (ra.below C) n (by omega)).mono ?_
  rintro _ v19 ⟨s_mo, _, rfl, mo, rfl, b⟩
  have C := C.trans (b.mono C.size)
  refine ⟨_, _, rfl, ?_⟩
  refine (C20 mo.rd n (by omega)).mono ?_
  rintro _ v20 ⟨s_le, _, rfl, le, rfl, b⟩
  have C := C.trans (b.mono C.size)
  have mo := mo.below b
  refine ⟨_, _, rfl, ?_⟩
  refine ⟨fun h => absurd h (by rw [k4]; simp), fun _ => ?_⟩
  refine (C27 (ra.below C) n (by omega)).mono ?_
  rintro _ v21 ⟨_, rfl, rfl, b⟩
  have C := C.trans (b.mono C.size)
  have mo := mo.below b
  have le := le.below b
  refine ⟨_, rfl, ?_⟩
  refine ⟨_, eqlb, fun h => absurd h (by rw [m3, hasS_up ua]; cases decide (n ∈ A) <;> simp), fun _ => ?_⟩
  refine (C27 mo.rd n (by omega)).mono ?_
  rintro _ v22 ⟨_, rfl, rfl, b⟩
  have C := C.trans (b.mono C.size)
  have mo := mo.below b
  have le := le.below b
  refine ⟨_, rfl, ?_⟩
  refine ⟨fun h => absurd h (by rw [hasS_up m1, decide_eq_true ((m2 n).2 (.inl rfl))]; simp), fun _ => ?_⟩
  have lt := takS_len (l := (addS A n).1) (n := n)
  refine (C27 le.rd n (by omega)).mono ?_
  rintro _ v23 ⟨_, rfl, rfl, b⟩
  have C := C.trans (b.mono C.size)
  have mo := mo.below b
  have le := le.below b
  refine ⟨_, rfl, ?_⟩
  refine ⟨fun h => absurd h (by rw [hasS_up k1, decide_eq_false (fun hm => ((k2 n).1 hm).2 rfl)]; simp), fun _ => ?_⟩
  unfold F5_j1
  refine ⟨fun _ => ⟨rfl, B.trans (C.mono B.size)⟩, fun hf => ?_⟩
  have hn : n ∉ A := by
    intro hm
    rw [m3, decide_eq_true hm] at hf
    simp at hf
  have hback : (takS (addS A n).1 n).1 = A := by
    refine up_ext k1 ua (fun x => ?_)
    rw [k2, m2]
    constructor
    · rintro ⟨h1 | h1, h2⟩
      · exact absurd h1 h2
      · exact h1
    · intro h1
      exact ⟨.inr h1, fun e => hn (e ▸ h1)⟩
  refine (C23 le.rd (ra.below C)).mono ?_
  rintro _ v24 ⟨_, rfl, q, b⟩
  have q := q.trans (decide_eq_true hback); subst q
  have C := C.trans (b.mono C.size)
  have mo := mo.below b
  have le := le.below b
  refine ⟨_, rfl, ?_⟩
  exact ⟨rfl, B.trans (C.mono B.size)⟩
end Go.Proofs.Ytjgijifankaglaa
