/- The law BitsReads, walked: every Get and Left, of any bytes. -/
import Derived.Test.YthhcaaellhdkiaaCI
import Derived.Test.YthhcaaellhdkiaaGB8
namespace Go.Proofs.Ythhcaaellhdkiaa
open Go Go.RowKit Go.Proofs.Ythhcaaellhdkiaa.SX
set_option linter.unusedVariables false

abbrev I64 (x : Int) : Value := .int .i64 x
theorem eqIn_bool (d : Nat) (w : World) (a b : Bool) : (Op.equalIn (d + 1) 4 (.bool a) (.bool b)).run Try.prog w = .ok (a == b) w := by simp [Op.equalIn]
theorem neq_bool (w : World) (x y : Operand) (a b : Bool) : (do eqGuard .neq 4 x y (.bool a : Value) (.bool b : Value); binOp .neq 4 (.bool a : Value) (.bool b : Value) : Sem Value).run Try.prog w = .ok (.bool (a != b) : Value) w := by
  have h : (Op.equal 4 (.bool a) (.bool b)).run Try.prog w = .ok (a == b) w := eqIn_bool 9999 w a b
  simp [eqGuard, binOp, h]; cases a <;> cases b <;> rfl

theorem paint (zs : List Int) (j : Nat) (h : j < zs.length) (y : Int) : (List.replicate j y ++ zs.drop j).set j y = List.replicate (j + 1) y ++ zs.drop (j + 1) := by
  have e := List.drop_eq_getElem_cons h
  rw [List.set_append_right _ _ (by simp), List.replicate_succ' (n := j), List.length_replicate, Nat.sub_self, e, List.set_cons_zero]
  simp
theorem paint_get (zs : List Int) (j : Nat) (h : j < zs.length) (y : Int) : (List.replicate j y ++ zs.drop j)[j]'(by simp; omega) = zs[j] := by
  rw [List.getElem_append_right (by simp)]
  simp
theorem rget_range (L : List Bool) (A : Nat) (n : Int) (hA : A ≤ L.length) : (rget L A n).2.2 ≤ L.length := by
  unfold rget; split
  · show A + n.toNat ≤ _; omega
  · exact hA
theorem F8_l4_spec {W w : World} {asks : Sl} {ys qs : List Int} {o o2 : Addr} {s s2 : Sl} {fp1 fp2 : Nat → Prop} (hb : Below W.heap.size W w) (hy : bys ys) (hl : ys.length ≤ 4000) (ha : Rd I64 W asks qs)
    (z1 : Wz w o s (0 : Nat) ys fp1) (z2 : Ob Value.bool 4 (some (.int .i64 ((0 : Nat) : Int))) w o2 s2 (unp ys) fp2) (hd : ∀ k, fp1 k → ¬ fp2 k) (h1 : ∀ k, fp1 k → W.heap.size ≤ k) (h2 : ∀ k, fp2 k → W.heap.size ≤ k) :
    kLoop (F8_l4 asks (fun r w1 => r = true ∧ Below W.heap.size W w1) (some o) (some o2)) 0 w := by
  have hul := unp_len ys
  have han := ha.1
  have ham : asks.n ≤ 9223372036854775807 := Nat.le_trans ha.2.1 (by have := ha.2.2.1; simpa [maxLen] using this)
  refine ⟨fun i wr => ∃ (j A : Nat), i = (j : Int) ∧ j ≤ qs.length ∧ A ≤ 8 * ys.length ∧ Wz wr o s (A : Int) ys fp1 ∧ Ob Value.bool 4 (some (.int .i64 (A : Int))) wr o2 s2 (unp ys) fp2 ∧ Below W.heap.size W wr, fun i _ => (qs.length - i).toNat,
    ⟨0, 0, rfl, by omega, by omega, z1, z2, hb⟩, ?_⟩
  rintro _ wr ⟨j, A, rfl, hj, hA, z1, z2, hb⟩
  unfold F8_l4
  have left : ∀ (wq : World) (A : Nat), A ≤ 8 * ys.length → Wz wq o s (A : Int) ys fp1 → Ob Value.bool 4 (some (.int .i64 (A : Int))) wq o2 s2 (unp ys) fp2 → Below W.heap.size W wq → ∀ K : Int → Int → World → Prop, (∀ m, K (8 * (ys.length : Int) - A) (8 * (ys.length : Int) - A) (wq.drewN m)) →
      Calls Try.prog 41 #[.pointer (some o)] wq fun e w_58 => ∃ (t124_57 : Int), e = .returned (.int .i64 t124_57 : Value) ∧
        Calls Try.prog 42 #[.pointer (some o2)] w_58 fun e w_60 => ∃ (t126_59 : Int), e = .returned (.int .i64 t126_59 : Value) ∧ K t124_57 t126_59 w_60 := by
    intro wq A hA z1 z2 hb K hK
    refine (C41 z1 (by omega) (by omega) (by omega)).mono ?_
    rintro _ _ ⟨_, rfl, rfl, m, rfl⟩
    have z2' : Ob Value.bool 4 (some (.int .i64 (A : Int))) (wq.drewN m) o2 s2 (unp ys) fp2 := z2.keep (S := fun _ => False) (gr_drewN (Gr.refl _ _) m) (fun _ _ h => h)
    refine ⟨_, rfl, (C42 z2' (by omega) (by omega)).mono ?_⟩
    rintro _ _ ⟨_, rfl, rfl, m', rfl⟩
    refine ⟨_, rfl, ?_⟩
    rw [hul]
    have := hK (m + m')
    rw [show ((8 * ys.length : Nat) : Int) = 8 * (ys.length : Int) by omega]
    have e : (wq.drewN m).drewN m' = wq.drewN (m + m') := World.drewN_drewN wq m m'
    rw [e]
    exact this
  refine ⟨fun hlt => ?_, fun hge => ?_⟩
  · have hja : j < qs.length := by omega
    obtain ⟨a, haa, hcell⟩ := (ha.below hb).at j hja
    refine ⟨by omega, hlt, a, haa, _, hcell, (C39 z1 hy hA (by omega)).mono ?_⟩
    rintro _ w50 ⟨_, _, rfl, rfl, rfl, y1, g1⟩
    have b50 : Below W.heap.size W w50 := hb.trans (g1.toBelow hb.size h1)
    have y2 : Ob Value.bool 4 (some (.int .i64 (A : Int))) w50 o2 s2 (unp ys) fp2 := z2.keep g1 (fun k hk hk' => hd k hk' hk)
    obtain ⟨a', haa', hcell'⟩ := (ha.below b50).at j hja
    refine ⟨_, _, rfl, by omega, hlt, a', haa', _, hcell', (C40 y2 (by omega) (by omega)).mono ?_⟩
    rintro _ w55 ⟨_, _, rfl, rfl, rfl, x2, g2⟩
    have b55 : Below W.heap.size W w55 := b50.trans (g2.toBelow b50.size h2)
    have x1 := y1.keep g2 hd
    have hr := rget_range (unp ys) A qs[j] (by omega)
    refine ⟨_, _, rfl, fun h => absurd rfl h, fun _ => ⟨_, neq_bool _ _ _ _ _, fun h => by simp at h, fun _ => ?_⟩⟩
    refine left w55 _ (by omega) x1 x2 b55 (fun a b wz => ((¬ a = b → false = true ∧ Below W.heap.size W wz) ∧ (a = b → _))) (fun m => ⟨fun h => absurd rfl h, fun _ => ?_⟩)
    rw [w_i64 (by omega) (by omega)]
    refine ⟨⟨j + 1, _, rfl, by omega, (by omega : (rget (unp ys) A qs[j]).2.2 ≤ 8 * ys.length), x1.keep (S := fun _ => False) (gr_drewN (Gr.refl _ _) m) (fun _ _ h => h), x2.keep (S := fun _ => False) (gr_drewN (Gr.refl _ _) m) (fun _ _ h => h), below_draw b55 m⟩, by dsimp only; omega⟩
  · refine left wr A hA z1 z2 hb (fun a b wz => (a == b) = true ∧ Below W.heap.size W wz) (fun m => ⟨by simp, below_draw hb m⟩)
theorem F8_j1_spec {W w7 : World} {b0 asks : Sl} {ys qs : List Int} (hb : Below W.heap.size W w7) (hr : Rd B8 W b0 ys) (hy : bys ys) (hl : ys.length ≤ 4000) (ha : Rd I64 W asks qs) : F8_j1 asks (fun r w1 => r = true ∧ Below W.heap.size W w1) true b0 w7 := by
  unfold F8_j1
  have hyn := hr.1
  have hW := hb.size
  rw [w_i64 (by omega) (by omega)]
  obtain ⟨h1, o1, b1⟩ := mk_own (P := Try.prog) (w := w7) (enc := B8) ty22 (x := 0) rfl ((b0.n : Int) + 8) ((b0.n : Int) + 8) (ys.length + 8) (ys.length + 8) (by omega) (by omega) (by omega) (by omega) (by simp only [maxLen]; omega)
  refine ⟨⟨some ⟨w7.heap.size, 0, none⟩, ys.length + 8, ys.length + 8⟩, _, h1, ?_⟩
  generalize hw9 : w7.alloc _ = w9 at o1 b1 h1 ⊢
  clear hw9 h1
  have b9 := hb.trans (b1.mono hW)
  obtain ⟨k, w11, h2, _, o2, g2⟩ := cp_own (ty := 3) ty22 b8one o1 (hr.below b9)
  have B1 := b1.grown g2 b1.size (fun k hk => by cases hk; exact Nat.le_refl _)
  clear b1 g2 o1
  refine ⟨k, w11, h2, ?_⟩
  clear h2
  have e2 : ys.take (List.replicate (ys.length + 8) (0 : Int)).length ++ (List.replicate (ys.length + 8) (0 : Int)).drop ys.length = ys ++ List.replicate 8 0 := by
    rw [List.take_of_length_le (by simp), List.drop_replicate]; congr 2; omega
  rw [e2] at o2
  have ht : ∀ j k : Nat, j + k ≤ 8 → True := fun _ _ _ => trivial
  refine ⟨fun i wr => ∃ k : Nat, k ≤ 8 ∧ i = ((ys.length + k : Nat) : Int) ∧ Own B8 5 w7.heap.size wr ⟨some ⟨w7.heap.size, 0, none⟩, ys.length + 8, ys.length + 8⟩ (ys ++ List.replicate k 255 ++ List.replicate (8 - k) 0) ∧ Below w7.heap.size w7 wr, fun i _ => (ys.length + 8 - i).toNat,
    ⟨0, by omega, by omega, by simpa using o2, B1⟩, ?_⟩
  rintro _ wr ⟨k, hk, rfl, ho, hbr⟩
  unfold F8_l2
  refine ⟨fun hlt => ?_, fun hge => ?_⟩
  · dsimp only at hlt
    obtain ⟨a, haa, hab, hc, hos, hgs⟩ := ho.set (ys.length + k) (by simp; omega) 255
    refine ⟨by omega, hlt, a, haa, hc, ?_⟩
    rintro _ rfl
    rw [w_i64 (by omega) (by omega)]
    refine ⟨⟨k + 1, by omega, by omega, ?_, hbr.grown hgs hbr.size (fun k hk => by cases hk; exact Nat.le_refl _)⟩, by dsimp only; omega⟩
    have e3 : (ys ++ List.replicate k 255 ++ List.replicate (8 - k) (0 : Int)).set (ys.length + k) 255 = ys ++ List.replicate (k + 1) 255 ++ List.replicate (8 - (k + 1)) 0 := by
      rw [show 8 - k = (8 - (k + 1)) + 1 by omega, List.replicate_succ (n := 8 - (k + 1)), List.replicate_succ' (n := k), List.set_append_right _ _ (by simp)]
      simp
    rw [e3] at hos
    exact hos
  · dsimp only at hge
    have : k = 8 := by omega
    subst this
    simp only [Nat.sub_self, List.replicate_zero, List.append_nil] at ho
    have b13 := hb.trans (hbr.mono hW)
    have hcut := rd_hi (b := ⟨some ⟨w7.heap.size, 0, none⟩, ys.length + 8, ys.length + 8⟩) ho.rd (b0.n : Int) ys.length (by omega) (by simp)
    obtain ⟨t43, hc1, hc2⟩ := hcut
    rw [List.take_left'  rfl] at hc2
    refine ⟨t43, hc1 wr, (C37 hc2 (by omega)).mono ?_⟩
    rintro _ w18 ⟨_, rfl, q1, s1, rfl, z1, b18⟩
    have B18 := b13.trans (b18.mono b13.size)
    refine ⟨_, rfl, (C38 (hr.below B18) hy (by omega)).mono ?_⟩
    rintro _ w20 ⟨_, rfl, q2, s2, rfl, z2, b20⟩
    have B20 := B18.trans (b20.mono B18.size)
    have z1' := z1.keep (S := fun _ => False) (Gr.below b20) (fun _ _ h => h)
    have o20 := (ho.below b18).below b20
    have hs1 := b18.size
    have hs2 := b20.size
    have hs0 := hbr.size
    have hs3 : w7.heap.size < wr.heap.size := (ho.blk_ge w7.heap.size rfl).2
    refine ⟨_, rfl, (fun h => nomatch h), fun _ => ⟨(fun h => nomatch h), fun _ => ?_⟩⟩
    refine ⟨fun i wq => ∃ j : Nat, j ≤ ys.length + 8 ∧ i = (j : Int) ∧ Own B8 5 w7.heap.size wq ⟨some ⟨w7.heap.size, 0, none⟩, ys.length + 8, ys.length + 8⟩ (List.replicate j 85 ++ (ys ++ List.replicate 8 255).drop j) ∧ Gr (fun k => k = w7.heap.size) w20 wq, fun i _ => (ys.length + 8 - i).toNat,
      ⟨0, by omega, rfl, by simpa using o20, Gr.refl _ _⟩, ?_⟩
    rintro _ wq ⟨j, hj, rfl, oq, gq⟩
    unfold F8_l3
    have bq : Below W.heap.size W wq := B20.trans (gq.toBelow B20.size (fun k hk => by omega))
    have set85 : ∀ m, j < ys.length + 8 → ∃ a, (⟨some ⟨w7.heap.size, 0, none⟩, ys.length + 8, ys.length + 8⟩ : Sl).a = some a ∧ HasCell (wq.drewN m) (a.add j) ∧ ∀ w', w' = (wq.drewN m).setCell (a.add j) (B8 85) → ((∃ j' : Nat, j' ≤ ys.length + 8 ∧ IntKind.i64.wrap ((j : Int) + 1) = (j' : Int) ∧ Own B8 5 w7.heap.size w' ⟨some ⟨w7.heap.size, 0, none⟩, ys.length + 8, ys.length + 8⟩ (List.replicate j' 85 ++ (ys ++ List.replicate 8 255).drop j') ∧ Gr (fun k => k = w7.heap.size) w20 w') ∧ ((ys.length : Int) + 8 - IntKind.i64.wrap ((j : Int) + 1)).toNat < ((ys.length : Int) + 8 - (j : Int)).toNat) := by
      intro m hlt
      obtain ⟨a, haa, hab, hc, hos, hgs⟩ := (oq.below (below_draw (Below.refl _ _) m)).set j (by simp; omega) 85
      refine ⟨a, haa, hc, ?_⟩
      rintro _ rfl
      rw [w_i64 (by omega) (by omega)]
      refine ⟨⟨j + 1, by omega, by omega, ?_, (gr_drewN gq m).trans (Gr.row hgs (fun b hb => by cases hb; rfl)) (fun _ _ h => h)⟩, by omega⟩
      have e4 := paint (ys ++ List.replicate 8 255) j (by simp; omega) 85
      rw [e4] at hos
      exact hos
    have cellq : ∀ (wz : World) (hj : j < ys.length + 8), (∃ m, wz = wq.drewN m) ∨ wz = wq → wz.cell? ((⟨w7.heap.size, 0, none⟩ : Addr).add j) = some (B8 ((ys ++ List.replicate 8 255)[j]'(by simp; omega))) := by
      intro wz hj hwz
      obtain ⟨a, haa, hcell⟩ := oq.rd.at j (by simp; omega)
      cases haa
      have e := paint_get (ys ++ List.replicate 8 255) j (by simp; omega) 85
      rw [e] at hcell
      rcases hwz with ⟨m, rfl⟩ | rfl
      · exact hcell
      · exact hcell
    refine ⟨fun hlt => ?_, fun hge => ?_⟩
    · dsimp only at hlt
      have hlt' : j < ys.length + 8 := by omega
      have hc := cellq wq hlt' (.inr rfl)
      refine ⟨fun hin => ?_, fun hout => ?_⟩
      · have hjy : j < ys.length := by omega
        rw [List.getElem_append_left hjy] at hc
        obtain ⟨a, haa, hcell⟩ := (hr.below bq).at j hjy
        refine ⟨by omega, hlt, _, rfl, _, hc, by omega, hin, a, haa, _, hcell, fun h => absurd rfl h, fun _ => ⟨fun h => absurd hin (by omega), fun _ => ?_⟩⟩
        rintro _ ⟨m, rfl⟩
        obtain ⟨a, ha1, ha2, ha3⟩ := set85 m hlt'
        exact ⟨by omega, hlt, a, ha1, ha2, ha3⟩
      · refine ⟨fun hin => ?_, fun h => absurd hout (by omega)⟩
        have hc' : wq.cell? ((⟨w7.heap.size, 0, none⟩ : Addr).add j) = some (B8 255) := by
          rw [hc, List.getElem_append_right (by omega), List.getElem_replicate]
        refine ⟨by omega, hlt, _, rfl, _, hc', ?_⟩
        rintro _ ⟨m, rfl⟩
        refine ⟨fun h => absurd rfl h, fun _ => ?_⟩
        obtain ⟨a, ha1, ha2, ha3⟩ := set85 m hlt'
        exact ⟨by omega, hlt, a, ha1, ha2, ha3⟩
    · refine F8_l4_spec bq hy hl ha (z1'.keep gq (fun k hk hk' => ?_)) (z2.keep gq (fun k hk hk' => ?_)) (fun k h1 h2 => ?_) (fun k hk => ?_) (fun k hk => ?_)
      · have := hk.1; omega
      · have := hk.1; omega
      · have := h1.2; have := h2.1; omega
      · have := hk.1; omega
      · have := hk.1; omega
theorem F8_spec {w : World} {b asks : Sl} {xs qs : List Int} (hr : Rd B8 w b xs) (hx : bys xs) (ha : Rd I64 w asks qs) : F8 b asks (fun r w1 => r = true ∧ Below w.heap.size w w1) w := by
  unfold F8
  refine (C32 w).mono ?_
  rintro _ w4 ⟨_, rfl, rfl, b4⟩
  have hn := hr.1
  refine ⟨_, rfl, fun hbig => ?_, fun hsm => F8_j1_spec b4 hr hx (by omega) ha⟩
  obtain ⟨t21, h1, h2⟩ := rd_hi hr 4000 4000 rfl (by omega)
  exact ⟨t21, h1 w4, F8_j1_spec b4 h2 (bys_take hx _) (by simp; omega) ha⟩
end Go.Proofs.Ythhcaaellhdkiaa
