/- PostCodes. -/
import Derived.Test.YtjgijifankaglaaPG
import Derived.Test.YtjgijifankaglaaGP4
namespace Go.Proofs.Ytjgijifankaglaa
open Go Go.RowKit Go.Proofs.Ytjgijifankaglaa.SX
set_option linter.unusedVariables false

theorem gp_len : ∀ (l : List Int) (p : Int), -1 ≤ p → p ≤ 4294967295 → u32s l → (gp p l).length ≤ 10 * l.length
  | [], _, _, _, _ => by simp [gp]
  | x :: l, p, h1, h2, hu => by
    have hx := hu x (by simp)
    have h3 := uv_len10 (n := (x - p - 1).toNat) (by omega)
    have h4 := gp_len l x (by omega) (by omega) (fun y hy => hu y (List.mem_cons_of_mem _ hy))
    rw [gp, List.length_append, List.length_cons]; omega
theorem putS_len {bs xs : List Int} (hu : u32s xs) (hl : xs.length ≤ 1000000) : (putS bs xs).1.length ≤ bs.length + 10 + 10 * xs.length := by
  unfold putS
  split
  · have h3 := uv_len10 (n := xs.length) (by omega)
    have h4 := gp_len xs (-1) (by omega) (by omega) hu
    rw [List.length_append, List.length_append]; omega
  · simp
theorem getF_len (bs : List Int) : ∀ (k a : Nat) (nx : Int) (acc : List Int), (getF bs k a nx acc).1.length ≤ acc.length + k
  | 0, _, _, _ => by simp [getF]
  | k + 1, a, nx, acc => by
    rw [getF]
    split
    · simp
    · split
      · simp
      · split
        · simp
        · have := getF_len bs k (a + (uint (bs.drop a)).2.toNat) (nx + (uint (bs.drop a)).1 + 1) (acc ++ [nx + (uint (bs.drop a)).1])
          rw [List.length_append] at this
          simp only [List.length_cons, List.length_nil] at this
          omega
theorem getS_len {bs : List Int} (hb : bys bs) : (getS bs).1.length ≤ bs.length := by
  obtain ⟨u1, u2, u3, u4, u5, u6⟩ := uint_range hb
  unfold getS
  split
  · simp
  · split
    · simp
    · have := getF_len bs (uint bs).1.toNat (uint bs).2.toNat 0 []
      simp only [List.length_nil] at this
      omega
section
variable {w : World} {a b s : Sl} {xs ys bs : List Int}
theorem F4_tail {w w9 : World} {b l : Sl} {Bs L : List Int} (B : Below w.heap.size w w9) (hb : Rd B8 w9 b Bs) (hbb : bys Bs) (hbl : Bs.length ≤ 4000) (hl : Rd E4 w9 l L) (hu : u32s L) (hll : L.length ≤ 400) : F4_j1 (fun r0 w1 => r0 = true ∧ Below w.heap.size w w1) true l b w9 := by
  unfold F4_j1
  rintro w10 e
  have b1 : Below w9.heap.size w9 w10 := by rw [e]; exact below_row _ _
  have o1 : Own B8 5 w9.heap.size w10 ⟨some ⟨w9.heap.size, 0, none⟩, 0, 0⟩ [] := by
    rw [e]
    exact ⟨rfl, .inr ⟨w9.heap.size, 0, #[], rfl, Nat.le_refl _, heap_alloc_new w9 _, Nat.le_refl _, by simp [maxLen], rfl, rfl⟩⟩
  clear e
  obtain ⟨s1, w12, r1, a1⟩ := ap_many (ty := 33) (w := w10) ty22 b8one o1 (hb.below b1) b1.size (by simp; omega)
  have b2 := a1.below o1 b1.size b1
  have o2 := a1.own
  rw [List.nil_append] at o2
  refine ⟨s1, w12, r1, ?_⟩
  rintro w13 e
  have b3 : Below w12.heap.size w12 w13 := by rw [e]; exact below_row _ _
  have hrow : Rd B8 w13 ⟨some ⟨w12.heap.size, 0, none⟩, 3, 3⟩ [1, 1, 1] := by rw [e]; exact row_u8 w12 [1, 1, 1] (by decide)
  clear e
  obtain ⟨s2, w15, r2, a2⟩ := ap_many (ty := 33) (w := w13) ty22 b8one (o2.below b3) hrow (Nat.le_trans b2.size b3.size) (by simp; omega)
  have b4 := a2.below (o2.below b3) (Nat.le_trans b2.size b3.size) (b2.trans (b3.mono b2.size))
  have o3 := a2.own
  refine ⟨s2, w15, r2, ?_⟩
  have hb := hb.below b4
  have hl := hl.below b4
  have B := B.trans (b4.mono B.size)
  have hlent := o3.rd
  clear r1 r2 a1 a2 o1 o2 o3 b1 b2 b3 b4 hrow
  have hs2 := hlent.1
  have hs2c := hlent.2.1
  rw [List.length_append] at hs2
  simp only [List.length_cons, List.length_nil] at hs2
  have hbn := hb.1
  refine (C15 hl (by omega)).mono ?_
  rintro _ w17 ⟨sx, rfl, lx, b17⟩
  have hb := hb.below b17
  have hl := hl.below b17
  have hlent := hlent.below b17
  have B := B.trans (b17.mono B.size)
  clear b17
  have hcut : Rd B8 w17 ⟨s2.a, b.n, s2.c⟩ Bs := by
    have := hlent.take b.n (by rw [List.length_append]; omega)
    rw [List.take_append_of_le_length (by omega), List.take_of_length_le (by omega)] at this
    exact this
  have C : Below w17.heap.size w17 w17 := Below.refl _ _
  refine ⟨_, rfl, ⟨s2.a, b.n, s2.c⟩, cut_hi (w := w17) ty22 s2 _ b.n rfl (by omega), ?_⟩
  refine (C31 hcut lx.rd hu (by omega) (by omega)).mono ?_
  rintro _ w21 ⟨sc, _, rfl, oc, rfl, b21⟩
  have C := C.trans b21
  have kc := fun k hk => (oc.blk_ge k hk).2
  refine ⟨_, _, rfl, (C32 (hb.below C) (hl.below C) hu (by omega) (by omega)).mono ?_⟩
  rintro _ w24 ⟨sd, _, rfl, od, rfl, b24⟩
  have z24 := b24.size
  have kd := fun k hk => (od.blk_ge k hk).2
  have C := C.trans (b24.mono C.size)
  have oc := oc.below b24
  refine ⟨_, _, rfl, ⟨s2.a, b.n, s2.c⟩, cut_hi (w := w24) ty22 s2 _ b.n rfl (by omega), ?_⟩
  refine (C33 (hcut.below C) hbb (by omega)).mono ?_
  rintro _ w28 ⟨se, _, rfl, oe, rfl, b28⟩
  have z28 := b28.size
  have C := C.trans (b28.mono C.size)
  have oc := oc.below b28
  have od := od.below b28
  refine ⟨_, _, rfl, (C34 (hb.below C) hbb (by omega)).mono ?_⟩
  rintro _ w31 ⟨sf, _, rfl, of, rfl, b31⟩
  have z31 := b31.size
  have C := C.trans (b31.mono C.size)
  have oc := oc.below b31
  have od := od.below b31
  have oe := oe.below b31
  refine ⟨_, _, rfl, (C30 (lx.below C) (hl.below C) (by omega)).mono ?_⟩
  rintro _ w33 ⟨_, rfl, rfl, b33⟩
  have C := C.trans (b33.mono C.size)
  have oc := oc.below b33
  have od := od.below b33
  have oe := oe.below b33
  have of := of.below b33
  refine ⟨_, rfl, (C23 oe.rd of.rd).mono ?_⟩
  rintro _ w35 ⟨_, rfl, q, b35⟩
  have q := q.trans (decide_eq_true rfl); subst q
  have C := C.trans (b35.mono C.size)
  have oc := oc.below b35
  have od := od.below b35
  have oe := oe.below b35
  have hgl := getS_len hbb
  refine ⟨_, rfl, (C29 oe (by omega)).mono ?_⟩
  rintro _ w36 ⟨rfl, g⟩
  have z17 := b21.size
  have bb := g.toBelow C.size (fun k hk => by have := (oe.blk_ge k hk).1; omega)
  have C := C.trans bb
  have oc := g.own oc (fun k hk hk2 => by have := (oe.blk_ge k hk2).1; have := kc k hk; omega)
  have od := g.own od (fun k hk hk2 => by have := (oe.blk_ge k hk2).1; have := kd k hk; omega)
  have kd := fun k hk => (od.blk_ge k hk).1
  have kc2 := fun k hk => (oc.blk_ge k hk).1
  have hPT : (putS Bs L).2 = false → (putS Bs L).1 = [] := by unfold putS; split <;> simp
  have hPl := putS_len (bs := Bs) hu (by omega)
  clear g bb q of b35 b33 b31 b28 b24 b21 oe
  refine ⟨rfl, ?_⟩
  generalize (putS Bs L).1 = P at *
  generalize (putS Bs L).2 = T at *
  refine ⟨fun i wr => ∃ j : Nat, ∃ ys, i = (j : Int) ∧ j ≤ P.length ∧ ys.length = P.length ∧ (∀ t (h1 : t < ys.length) (h2 : t < P.length), j ≤ t → ys[t] = P[t]) ∧ Own B8 5 w17.heap.size wr sc ys ∧ Gr (fun k => sc.blk = some k) w36 wr, fun i _ => (P.length - i).toNat, ⟨0, P, rfl, by omega, rfl, fun _ _ _ _ => rfl, oc, Gr.refl _ _⟩, ?_⟩
  rintro _ wr ⟨j, ys, rfl, hj, hyl, heq, ho, hg⟩
  unfold F4_l2
  have hcn := ho.len
  have od := hg.own od (fun k hk hk2 => by have := kd k hk; have := kc k hk2; omega)
  have hdn := od.len
  have Cw := C.trans (hg.toBelow C.size (fun k hk => kc2 k hk))
  refine ⟨fun hlt => ⟨fun hT' => ?_, fun hT' => ⟨fun hge => ?_, fun hlt2 => ?_⟩⟩, fun hge => ⟨fun hne => ?_, fun _ => ?_⟩⟩
  · have h0 := congrArg List.length (hPT hT')
    simp only [List.length_nil] at h0
    exact absurd hlt (by omega)
  · exact absurd hge (by omega)
  · obtain ⟨a1, ha1, hc1⟩ := ho.rd.at j (by omega)
    obtain ⟨a2, ha2, hc2⟩ := od.rd.at j (by omega)
    refine ⟨by omega, hlt, a1, ha1, _, hc1, by omega, by omega, a2, ha2, _, hc2, ?_⟩
    rintro _ ⟨m, rfl⟩
    refine ⟨fun hne => absurd (heq j (by omega) (by omega) (Nat.le_refl _)) hne, fun _ => ?_⟩
    have hd := below_draw (Below.refl wr.heap.size wr) m
    obtain ⟨a3, ha3, hblk, hcell, o2, g2⟩ := (ho.below hd).set j (by omega) 7
    refine ⟨by omega, hlt, a3, ha3, hcell, ?_⟩
    rintro _ rfl
    rw [w_i64 (by omega) (by omega)]
    exact ⟨⟨j + 1, ys.set j 7, by omega, by omega, by rw [List.length_set]; exact hyl, fun t h1 h2 htj => by rw [List.getElem_set_ne (by omega)]; exact heq t _ h2 (by omega), o2, (hg.trans (Gr.below (S := fun k => sc.blk = some k) hd) (fun i _ hi => hi)).trans (Gr.row g2 (fun b hb => hb)) (fun i _ hi => hi)⟩, by (try dsimp only); omega⟩
  · exact absurd (by omega) hne
  · refine ⟨_, neqb, fun h => absurd h (by simp), fun _ => ⟨fun h => absurd rfl h, fun _ => ⟨(fun h => nomatch h), fun _ => ⟨(fun h => nomatch h), fun _ => ⟨fun _ => ?_, (fun h => nomatch h)⟩⟩⟩⟩⟩
    refine ⟨_, rd_str (hlent.below Cw), _, rd_str (hb.below Cw), _, str_add (by rw [strOfNums_size]; show _ + 3 ≤ _; omega), ?_⟩
    unfold F4_j3
    refine ⟨?_, B.trans (Cw.mono B.size)⟩
    rw [str_three]; exact beq_self_eq_true _
theorem F4_spec {w : World} {b l : Sl} {bs xs : List Int} (hb : Rd B8 w b bs) (hbb : bys bs) (hl : Rd E4 w l xs) (hu : u32s xs) : F4 b l (fun r0 w1 => r0 = true ∧ Below w.heap.size w w1) w := by
  unfold F4
  have hbn := hb.1
  refine (C13 w).mono ?_
  rintro _ w4 ⟨_, rfl, rfl, b4⟩
  refine ⟨_, rfl, (C14 (hl.below b4)).mono ?_⟩
  rintro _ w6 ⟨sl, rfl, rl, hw⟩
  rw [hw]; clear hw
  have hL : (xs.take 400).length ≤ 400 := by simp; omega
  have hu' : u32s (xs.take 400) := fun x hx => hu x (List.mem_of_mem_take hx)
  have hb := hb.below b4
  refine ⟨_, rfl, fun h0 => ?_, fun h0 => ?_⟩
  · refine ⟨⟨b.a, 4000, b.c⟩, cut_hi (w := w4) ty22 b _ 4000 rfl (by have := hb.2.1; omega), ?_⟩
    exact F4_tail b4 (hb.take 4000 (by omega)) (bys_take hbb 4000) (by simp; omega) rl hu' hL
  · exact F4_tail b4 hb hbb (by omega) rl hu' hL
end
end Go.Proofs.Ytjgijifankaglaa
