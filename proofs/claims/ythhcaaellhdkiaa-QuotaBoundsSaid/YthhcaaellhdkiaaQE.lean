/- QuotaBounds, walked. -/
import Derived.Test.YthhcaaellhdkiaaQD
import Derived.Test.YthhcaaellhdkiaaQR
namespace Go.Proofs.Ythhcaaellhdkiaa
open Go Go.RowKit Go.Proofs.Ythhcaaellhdkiaa.SX
set_option linter.unusedVariables false

/-- a take -/
structure Tk where
  w : Int
  n : Int
  m : Int
def Tk.enc (x : Tk) : List Value := [.int .i64 x.w, .int .i64 x.n, .int .i64 x.m]
@[reducible] def Tk.row (x : Tk) : Array Value := #[.int .i64 x.w, .int .i64 x.n, .int .i64 x.m]
def Row3 (w : World) (g : Nat) (x : Tk) : Prop := w.heap[g]? = some (.cells x.row 53 (0, 0))
section
variable {w w' : World} {g : Nat} {a : Tk} {S : Nat → Prop}
theorem Row3.new (w : World) (a : Tk) : Row3 (w.alloc (.cells a.row 53)) w.heap.size a := heap_alloc_new w _
theorem Row3.c0 (h : Row3 w g a) : w.cell? ⟨g, 0, none⟩ = some (.int .i64 a.w) := by rw [row_get h]; rfl
theorem Row3.c1 (h : Row3 w g a) : w.cell? ((⟨g, 0, none⟩ : Addr).add 1) = some (.int .i64 a.n) := by rw [add_lit, row_get h]; rfl
theorem Row3.c2 (h : Row3 w g a) : w.cell? ((⟨g, 0, none⟩ : Addr).add 2) = some (.int .i64 a.m) := by rw [add_lit, row_get h]; rfl
theorem Row3.has (h : Row3 w g a) (j : Nat) (hj : j < 3) : HasCell w ((⟨g, 0, none⟩ : Addr).add j) := by rw [add_lit]; exact row_has h (by simpa using hj)
theorem Row3.hass (h : Row3 w g a) : HasCells w (⟨g, 0, none⟩ : Addr) 0 3 := ⟨h.has 0 (by omega), h.has 1 (by omega), h.has 2 (by omega), trivial⟩
theorem Row3.keep (h : Row3 w g a) (hg : Gr S w w') (hn : ¬ S g) : Row3 w' g a := hg.blk h hn
theorem Row3.sets (h : Row3 w g a) (b : Tk) : Row3 (setCells w (⟨g, 0, none⟩ : Addr) 0 b.enc) g b ∧ Gr (fun k => k = g) w (setCells w (⟨g, 0, none⟩ : Addr) 0 b.enc) := by
  have s1 := row_set (j := 0) h (.int .i64 b.w)
  have s2 := row_set (j := 1) s1 (.int .i64 b.n)
  have s3 := row_set (j := 2) s2 (.int .i64 b.m)
  have e : setCells w (⟨g, 0, none⟩ : Addr) 0 b.enc = ((w.setCell ⟨g, 0, none⟩ (.int .i64 b.w)).setCell ⟨g, 1, none⟩ (.int .i64 b.n)).setCell ⟨g, 2, none⟩ (.int .i64 b.m) := by
    simp only [setCells, add_lit, Tk.enc]
  rw [e]
  exact ⟨s3, ((gr_setl w g 0 _).trans (gr_setl _ g 1 _) (fun _ _ h => h)).trans (gr_setl _ g 2 _) (fun _ _ h => h)⟩
end

theorem tk_of {l : List Value} (h : Leaves [.int .i64, .int .i64, .int .i64] l) : ∃ b : Tk, b.enc = l ∧ (-9223372036854775808 ≤ b.w ∧ b.w ≤ 9223372036854775807 ∧ -9223372036854775808 ≤ b.n ∧ b.n ≤ 9223372036854775807 ∧ -9223372036854775808 ≤ b.m ∧ b.m ≤ 9223372036854775807) := by
  obtain ⟨v0, l0, rfl, ⟨k, rfl, h0⟩, hA⟩ := leaves_cons h
  obtain ⟨v1, l1, rfl, ⟨on, rfl, h1⟩, hB⟩ := leaves_cons hA
  obtain ⟨v2, l2, rfl, ⟨v, rfl, h2⟩, hC⟩ := leaves_cons hB
  obtain rfl := leaves_nil hC
  have g0 := bounds_i64 h0
  have g1 := bounds_i64 h1
  have g2 := bounds_i64 h2
  exact ⟨⟨k, on, v⟩, rfl, g0.1, g0.2, g1.1, g1.2, g2.1, g2.2⟩
theorem look_self (t : ByteArray) (a : Acc) : look [(t, a)] t = some (0, a) := by simp [look]
theorem getA_self (t : ByteArray) (a : Acc) : getA [(t, a)] t = a := by unfold getA; rw [look_self]; rfl
def tK : ByteArray := ByteArray.mk #[116]
theorem F6_spec {w : World} {series samples : Int} {takes : Sl} {tk : List Tk} (hr : RdR Tk.enc 3 w takes tk) (ht : ∀ x ∈ tk, -9223372036854775808 ≤ x.w ∧ x.w ≤ 9223372036854775807 ∧ -9223372036854775808 ≤ x.n ∧ x.n ≤ 9223372036854775807 ∧ -9223372036854775808 ≤ x.m ∧ x.m ≤ 9223372036854775807) :
    F6 series samples takes (fun r w1 => r = true ∧ Below w.heap.size w w1) w := by
  unfold F6
  have hrn := hr.1
  have hrm := hr.2.1
  refine (C27 w).mono ?_
  rintro _ w5 ⟨_, rfl, rfl, b5⟩
  refine ⟨_, rfl, (OB.new b5).mono ?_⟩
  rintro _ w7 ⟨_, rfl, q, b, rfl, h7⟩
  refine ⟨_, rfl, (fun h => nomatch h), fun _ => ⟨(fun h => nomatch h), fun _ => ?_⟩⟩
  refine (h7.set tK series samples).mono ?_
  rintro _ w13 ⟨_, rfl, rfl, h13, _⟩
  refine ⟨_, rfl, fun hne => ⟨fun _ => ⟨rfl, h13.bel⟩, (fun h => nomatch h)⟩, fun hz => ?_⟩
  have hm : putM [] tK ⟨series, samples, 0, 0, 0⟩ = [(tK, ⟨series, samples, 0, 0, 0⟩)] := by unfold putM; rw [if_pos hz]; rfl
  rw [hm] at h13
  refine ⟨fun st wr => ∃ (i : Nat) (all last written : Int), st = (all, last, written, (i : Int)) ∧ i ≤ tk.length ∧ OB w wr q b [(tK, ⟨series, samples, all, written, last⟩)], fun st _ => (tk.length - st.2.2.2).toNat, ⟨0, 0, 0, 0, rfl, by omega, h13⟩, ?_⟩
  rintro _ wr ⟨i, all, last, written, rfl, hi, ho⟩
  have hok : Acc.ok ⟨series, samples, all, written, last⟩ := ho.inv (tK, _) (List.mem_singleton.2 rfl)
  obtain ⟨a1, a2, b1, b2, c1, c2, d1, d2, e1, e2⟩ := hok
  simp only at a1 a2 b1 b2 c1 c2 d1 d2 e1 e2
  unfold F6_l4
  refine ⟨fun hlt => ?_, fun hge => ⟨rfl, ho.bel⟩⟩
  have hil : i < tk.length := by omega
  obtain ⟨a, ha, hc⟩ := (hr.below ho.bel).at i hil
  have hx := ht tk[i] (List.getElem_mem hil)
  generalize tk[i] = x at hc hx
  refine ⟨by omega, by omega, a, ha, x.w, x.n, x.m, hc, ?_⟩
  intro w25 hw25
  have r25 : Row3 w25 wr.heap.size ⟨0, 0, 0⟩ := by rw [hw25]; exact Row3.new wr ⟨0, 0, 0⟩
  have b25 : Below wr.heap.size wr w25 := by rw [hw25]; exact (Below.refl _ _).alloc (Nat.le_refl _) _
  clear hw25
  refine ⟨r25.hass, ?_⟩
  intro w26 hw26
  obtain ⟨r26, g26⟩ : Row3 w26 wr.heap.size x ∧ Gr (fun k => k = wr.heap.size) w25 w26 := by rw [hw26]; exact r25.sets x
  clear hw26
  have B26 := b25.trans (g26.toBelow b25.size (fun k hk => by omega))
  have h26 := ho.below B26
  refine ⟨_, r26.c0, (h26.room tK x.w).mono ?_⟩
  rw [getA_self]
  rintro _ w30 ⟨_, _, rfl, rfl, rfl, b30, h30⟩
  have r30 := r26.keep (S := fun _ => False) (Gr.below b30) (fun h => h)
  have hbl : b ≠ wr.heap.size := by have := ho.bk.lt; omega
  have hj7 : ∀ (wq : World) (all' last' written' : Int), OB w wq q b [(tK, ⟨series, samples, all', written', last'⟩)] → F6_j7 (i : Int) (fun s' w' => (∃ (i : Nat) (all last written : Int), s' = (all, last, written, (i : Int)) ∧ i ≤ tk.length ∧ OB w w' q b [(tK, ⟨series, samples, all, written, last⟩)]) ∧ ((tk.length : Int) - s'.2.2.2).toNat < ((tk.length : Int) - (i : Int)).toNat) all' last' written' wq := by
    intro wq all' last' written' hq
    unfold F6_j7
    rw [w_i64 (by omega) (by omega)]
    exact ⟨⟨i + 1, _, _, _, by simp, by omega, hq⟩, by dsimp only; omega⟩
  have hj5 : ∀ (r1 wr1 : Int), r1 = samples - wr1 → (atA ⟨series, samples, all, written, last⟩ x.w) = ⟨series, samples, all, wr1, if x.w > last then x.w else last⟩ → (0 ≤ wr1 ∧ wr1 ≤ samples) → (wr1 = if x.w > last then 0 else written) →
      F6_j5 series samples (fun r w1 => r = true ∧ Below w.heap.size w w1) (some ⟨q, 0, none⟩) all last written (i : Int) (fun s' w' => (∃ (i : Nat) (all last written : Int), s' = (all, last, written, (i : Int)) ∧ i ≤ tk.length ∧ OB w w' q b [(tK, ⟨series, samples, all, written, last⟩)]) ∧ ((tk.length : Int) - s'.2.2.2).toNat < ((tk.length : Int) - (i : Int)).toNat) wr (series - all) r1 w30 := by
    rintro _ wr1 rfl hat hwr hwr1
    unfold F6_j5
    rw [w_i64 (by omega) (by omega)]
    refine ⟨fun h => absurd rfl h, fun _ => ⟨_, r30.c0, _, r30.c1, _, r30.c2, (h30.take tK x.w x.n x.m hx.2.1).mono ?_⟩⟩
    rintro _ w37 ⟨_, rfl, rfl, h37, g37⟩
    have r37 := r30.keep g37 (fun h => hbl h.symm)
    have htc : takeC [(tK, ⟨series, samples, all, written, last⟩)] tK x.w x.n x.m = if x.n < 0 ∨ x.m < 0 then 1 else if x.n > series - all then 150 else if x.m > samples - wr1 then 151 else 0 := by
      unfold takeC
      rw [look_self, getA_self, hat]
      rfl
    have j6 : ∀ f : Bool, f = decide (0 ≤ x.n ∧ 0 ≤ x.m ∧ x.n ≤ series - all ∧ x.m ≤ samples - wr1) →
        F6_j6 series samples (fun r w1 => r = true ∧ Below w.heap.size w w1) all last written (i : Int) (fun s' w' => (∃ (i : Nat) (all last written : Int), s' = (all, last, written, (i : Int)) ∧ i ≤ tk.length ∧ OB w w' q b [(tK, ⟨series, samples, all, written, last⟩)]) ∧ ((tk.length : Int) - s'.2.2.2).toNat < ((tk.length : Int) - (i : Int)).toNat) wr (takeC [(tK, ⟨series, samples, all, written, last⟩)] tK x.w x.n x.m) f w37 := by
      intro f hf
      have heq : (takeC [(tK, ⟨series, samples, all, written, last⟩)] tK x.w x.n x.m == 0) = f := by
        rw [htc, hf]
        split
        · have : ¬ (0 ≤ x.n ∧ 0 ≤ x.m ∧ x.n ≤ series - all ∧ x.m ≤ samples - wr1) := by omega
          simp [this]
        · split
          · have : ¬ (0 ≤ x.n ∧ 0 ≤ x.m ∧ x.n ≤ series - all ∧ x.m ≤ samples - wr1) := by omega
            simp [this]
          · split
            · have : ¬ (0 ≤ x.n ∧ 0 ≤ x.m ∧ x.n ≤ series - all ∧ x.m ≤ samples - wr1) := by omega
              simp [this]
            · have : (0 ≤ x.n ∧ 0 ≤ x.m ∧ x.n ≤ series - all ∧ x.m ≤ samples - wr1) := by omega
              simp [this]
      unfold F6_j6
      rw [heq]
      refine ⟨_, neq_bool _ _ _ _ _, fun h => by simp at h, fun _ => ⟨fun hff => ?_, fun hft => ?_⟩⟩
      · have hne : takeC [(tK, ⟨series, samples, all, written, last⟩)] tK x.w x.n x.m ≠ 0 := by
          intro h0
          rw [h0] at heq
          rw [hff] at heq
          cases heq
        have : takeM [(tK, ⟨series, samples, all, written, last⟩)] tK x.w x.n x.m = [(tK, ⟨series, samples, all, written, last⟩)] := by unfold takeM; rw [if_neg hne]
        rw [this] at h37
        exact hj7 w37 all last written h37
      · rw [hft] at heq
        have hz0 : takeC [(tK, ⟨series, samples, all, written, last⟩)] tK x.w x.n x.m = 0 := eq_of_beq heq
        have hfit := of_decide_eq_true (hf.symm.trans hft)
        have hM : takeM [(tK, ⟨series, samples, all, written, last⟩)] tK x.w x.n x.m = [(tK, ⟨series, samples, all + x.n, wr1 + x.m, if x.w > last then x.w else last⟩)] := by
          unfold takeM
          rw [if_pos hz0, getA_self]
          unfold put takeA
          rw [look_self, hat]
          rfl
        rw [hM] at h37
        have j8 : ∀ last' written' : Int, last' = (if x.w > last then x.w else last) → written' = wr1 →
            F6_j8 series samples (fun r w1 => r = true ∧ Below w.heap.size w w1) all (i : Int) (fun s' w' => (∃ (i : Nat) (all last written : Int), s' = (all, last, written, (i : Int)) ∧ i ≤ tk.length ∧ OB w w' q b [(tK, ⟨series, samples, all, written, last⟩)]) ∧ ((tk.length : Int) - s'.2.2.2).toNat < ((tk.length : Int) - (i : Int)).toNat) wr last' written' w37 := by
          intro last' written' hl' hw'
          rw [hl', hw']
          unfold F6_j8
          refine ⟨_, r37.c2, _, r37.c1, ?_⟩
          rw [w_i64 (n := wr1 + x.m) (by omega) (by omega), w_i64 (n := all + x.n) (by omega) (by omega)]
          exact ⟨fun h => absurd h (by omega), fun _ => ⟨fun h => absurd h (by omega), fun _ => hj7 w37 _ _ _ h37⟩⟩
        refine ⟨_, r37.c0, fun hgt => ⟨_, r37.c0, j8 x.w 0 (by rw [if_pos hgt]) (by rw [hwr1, if_pos hgt])⟩, fun hle => j8 last written (by rw [if_neg hle]) (by rw [hwr1, if_neg hle])⟩
    refine ⟨_, rfl, _, r37.c1, fun h1 => ⟨_, r37.c2, fun h2 => ⟨_, r37.c1, fun h3 => ⟨_, r37.c2, j6 _ ?_⟩, fun h3 => j6 _ ?_⟩, fun h2 => j6 _ ?_⟩, fun h1 => j6 _ ?_⟩
    · by_cases h4 : x.m ≤ samples - wr1
      · have : (0 ≤ x.n ∧ 0 ≤ x.m ∧ x.n ≤ series - all ∧ x.m ≤ samples - wr1) := by omega
        simp [this]
      · have : ¬ (0 ≤ x.n ∧ 0 ≤ x.m ∧ x.n ≤ series - all ∧ x.m ≤ samples - wr1) := by omega
        simp [this]; omega
    · have : ¬ (0 ≤ x.n ∧ 0 ≤ x.m ∧ x.n ≤ series - all ∧ x.m ≤ samples - wr1) := by omega
      simp [this]
    · have : ¬ (0 ≤ x.n ∧ 0 ≤ x.m ∧ x.n ≤ series - all ∧ x.m ≤ samples - wr1) := by omega
      simp [this]
    · have : ¬ (0 ≤ x.n ∧ 0 ≤ x.m ∧ x.n ≤ series - all ∧ x.m ≤ samples - wr1) := by omega
      simp [this]
  refine ⟨_, _, rfl, _, r30.c0, fun hgt => ?_, fun hle => ?_⟩
  · have hat : atA ⟨series, samples, all, written, last⟩ x.w = ⟨series, samples, all, 0, x.w⟩ := by unfold atA; rw [if_pos hgt]
    rw [hat]
    refine ⟨fun h => absurd (by simp) h, fun _ => hj5 _ 0 (by simp) (by rw [hat, if_pos hgt]) (by omega) (by rw [if_pos hgt])⟩
  · have hat : atA ⟨series, samples, all, written, last⟩ x.w = ⟨series, samples, all, written, last⟩ := by unfold atA; rw [if_neg hle]
    rw [hat, w_i64 (by omega) (by omega)]
    refine ⟨fun h => absurd rfl h, fun _ => hj5 _ written rfl (by rw [hat, if_neg hle]) (by omega) (by rw [if_neg hle])⟩
end Go.Proofs.Ythhcaaellhdkiaa
