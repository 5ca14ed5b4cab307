/- QuotaApart, walked: what a tenant is told hangs on its own steps alone. -/
import Derived.Test.YthhcaaellhdkiaaQF
import Derived.Test.YthhcaaellhdkiaaGQ10
namespace Go.Proofs.Ythhcaaellhdkiaa
open Go Go.RowKit Go.Proofs.Ythhcaaellhdkiaa.SX
set_option linter.unusedVariables false

theorem toList_iff {a b : ByteArray} : a.toList = b.toList ↔ a = b := by
  rw [ByteArray.toList_eq, ByteArray.toList_eq]
  exact ⟨fun h => ByteArray.ext (Array.toList_inj.mp h), fun h => by rw [h]⟩
/-- a step -/
structure QOp where
  kd : Int
  on : Int
  tn : ByteArray
  w : Int
  n : Int
  m : Int
  a : Acc
@[reducible] def QOp.enc (x : QOp) : List Value := [.int .i64 x.kd, .int .i64 x.on, .string x.tn, .int .i64 x.w, .int .i64 x.n, .int .i64 x.m, .int .i64 x.a.ms, .int .i64 x.a.mp, .int .i64 x.a.sr, .int .i64 x.a.wr, .int .i64 x.a.wi]
theorem qop_of {l : List Value} (h : Leaves [.int .i64, .int .i64, .str, .int .i64, .int .i64, .int .i64, .int .i64, .int .i64, .int .i64, .int .i64, .int .i64] l) : ∃ x : QOp, x.enc = l ∧ (x.w ≤ 9223372036854775807 ∧ x.a.wi ≤ 9223372036854775807) := by
  obtain ⟨v0, l0, rfl, ⟨x0, rfl, h0⟩, g0⟩ := leaves_cons h
  obtain ⟨v1, l1, rfl, ⟨x1, rfl, h1⟩, g1⟩ := leaves_cons g0
  obtain ⟨v2, l2, rfl, ⟨x2, rfl, h2⟩, g2⟩ := leaves_cons g1
  obtain ⟨v3, l3, rfl, ⟨x3, rfl, h3⟩, g3⟩ := leaves_cons g2
  obtain ⟨v4, l4, rfl, ⟨x4, rfl, h4⟩, g4⟩ := leaves_cons g3
  obtain ⟨v5, l5, rfl, ⟨x5, rfl, h5⟩, g5⟩ := leaves_cons g4
  obtain ⟨v6, l6, rfl, ⟨x6, rfl, h6⟩, g6⟩ := leaves_cons g5
  obtain ⟨v7, l7, rfl, ⟨x7, rfl, h7⟩, g7⟩ := leaves_cons g6
  obtain ⟨v8, l8, rfl, ⟨x8, rfl, h8⟩, g8⟩ := leaves_cons g7
  obtain ⟨v9, l9, rfl, ⟨x9, rfl, h9⟩, g9⟩ := leaves_cons g8
  obtain ⟨v10, l10, rfl, ⟨x10, rfl, h10⟩, g10⟩ := leaves_cons g9
  obtain rfl := leaves_nil g10
  have b3 := bounds_i64 h3
  have b10 := bounds_i64 h10
  exact ⟨⟨x0, x1, x2, x3, x4, x5, ⟨x6, x7, x8, x9, x10⟩⟩, rfl, b3.2, b10.2⟩
def Row11 (w : World) (g : Nat) (x : QOp) : Prop := w.heap[g]? = some (.cells x.enc.toArray 89 (0, 0))
section
variable {w w' : World} {g : Nat} {x : QOp} {S : Nat → Prop}
theorem Row11.keep (h : Row11 w g x) (hg : Gr S w w') (hn : ¬ S g) : Row11 w' g x := hg.blk h hn
theorem Row11.at (h : Row11 w g x) (j : Nat) : w.cell? ((⟨g, 0, none⟩ : Addr).add j) = x.enc[j]? := by rw [add_lit, row_get h]; simp
theorem Row11.c0 (h : Row11 w g x) : w.cell? (⟨g, 0, none⟩ : Addr) = some (.int .i64 x.kd) := by rw [row_get h]; rfl
theorem Row11.acc (h : Row11 w g x) : CellsAt w ((⟨g, 0, none⟩ : Addr).add 6) 0 x.a.l := by
  have e : ∀ j, ((⟨g, 0, none⟩ : Addr).add 6).add j = (⟨g, 0, none⟩ : Addr).add (6 + j) := fun j => add_add _ _ _
  refine ⟨?_, ?_, ?_, ?_, ?_, trivial⟩
  · rw [e]; exact h.at 6
  · rw [e]; exact h.at 7
  · rw [e]; exact h.at 8
  · rw [e]; exact h.at 9
  · rw [e]; exact h.at 10
end

section
variable {W : World} {qa ba qb bb : Nat} {tn : ByteArray}
def ApI (W : World) (qa ba qb bb : Nat) (tn : ByteArray) (s : Int) (w : World) : Prop := ∃ (i : Nat) (ma mb : Accs), s = (i : Int) ∧ i ≤ 2000 ∧ TB W w qa ba ma qb bb mb ∧ Uniq ma ∧ Uniq mb ∧ val ma tn = val mb tn
def ApN (W : World) (qa ba qb bb : Nat) (tn : ByteArray) (i : Nat) (s : Int) (w : World) : Prop := ApI W qa ba qb bb tn s w ∧ (2000 - s).toNat < (2000 - (i : Int)).toNat
theorem ap_next {wq : World} {ma mb : Accs} {i : Nat} (hi : i < 2000) (h : TB W wq qa ba ma qb bb mb) (ua : Uniq ma) (ub : Uniq mb) (hv : val ma tn = val mb tn) : F10_j2 (i : Int) (ApN W qa ba qb bb tn i) wq := by
  unfold F10_j2
  rw [w_i64 (by omega) (by omega)]
  exact ⟨⟨i + 1, ma, mb, by omega, by omega, h, ua, ub, hv⟩, by omega⟩
theorem ap_j3 {w10 wq : World} {ma mb : Accs} {x : QOp} {i : Nat} {x10 y11 : Int} (hi : i < 2000) (h : TB W wq qa ba ma qb bb mb) (ua : Uniq ma) (ub : Uniq mb) (hv : val ma tn = val mb tn) (hr : Row11 wq w10.heap.size x) (hxy : x.tn = tn → x10 = y11) :
    F10_j3 tn (fun r w1 => r = true ∧ Below W.heap.size W w1) (some ⟨qa, 0, none⟩) (some ⟨qb, 0, none⟩) (i : Int) (ApN W qa ba qb bb tn i) w10 x.tn x10 y11 wq := by
  unfold F10_j3
  have hA : getA mb tn = getA ma tn := by rw [getA_val, getA_val, hv]
  have hS : (look mb tn).isSome = (look ma tn).isSome := by rw [some_val, some_val, hv]
  refine ⟨_, hr.at 3, (C30 h.a.bk h.a.inv tn x.w).mono ?_⟩
  rintro _ w45 ⟨_, _, rfl, rfl, rfl, b45⟩
  have h45 := h.below b45
  have r45 := hr.keep (S := fun _ => False) (Gr.below b45) (fun h => h)
  refine ⟨_, _, rfl, _, r45.at 3, (C30 h45.b.bk h45.b.inv tn x.w).mono ?_⟩
  rintro _ w49 ⟨_, _, rfl, rfl, rfl, b49⟩
  have h49 := h45.below b49
  rw [hA]
  refine ⟨_, _, rfl, (C49 h49.a.bk tn).mono ?_⟩
  rintro _ w56 ⟨_, _, _, _, _, _, rfl, rfl, rfl, rfl, rfl, rfl, rfl, b56⟩
  have h56 := h49.below b56
  refine ⟨_, _, _, _, _, _, rfl, ?_⟩
  intro w57 hw57
  have r57 : Row5 w57 w56.heap.size 87 .zero := by rw [hw57]; exact Row5.new w56 .zero 87
  have b57 : Below w56.heap.size w56 w57 := by rw [hw57]; exact (Below.refl _ _).alloc (Nat.le_refl _) _
  clear hw57
  refine ⟨r57.hass, ?_⟩
  intro w58 hw58
  obtain ⟨r58, g58⟩ : Row5 w58 w56.heap.size 87 (getA ma tn) ∧ Gr (fun k => k = w56.heap.size) w57 w58 := by rw [hw58]; exact r57.sets (getA ma tn)
  clear hw58
  have B58 := b57.trans (g58.toBelow b57.size (fun k hk => by omega))
  have h58 := h56.below B58
  refine (C49 h58.b.bk tn).mono ?_
  rw [hA, hS]
  rintro _ w65 ⟨_, _, _, _, _, _, rfl, rfl, rfl, rfl, rfl, rfl, rfl, b65⟩
  have h65 := h58.below b65
  have r65 := r58.keep (S := fun _ => False) (Gr.below b65) (fun h => h)
  refine ⟨_, _, _, _, _, _, rfl, ?_⟩
  intro w66 hw66
  have r66 : Row5 w66 w65.heap.size 87 .zero := by rw [hw66]; exact Row5.new w65 .zero 87
  have b66 : Below w65.heap.size w65 w66 := by rw [hw66]; exact (Below.refl _ _).alloc (Nat.le_refl _) _
  clear hw66
  refine ⟨r66.hass, ?_⟩
  intro w67 hw67
  obtain ⟨r67, g67⟩ : Row5 w67 w65.heap.size 87 (getA ma tn) ∧ Gr (fun k => k = w65.heap.size) w66 w67 := by rw [hw67]; exact r66.sets (getA ma tn)
  clear hw67
  have B67 := b66.trans (g67.toBelow b66.size (fun k hk => by omega))
  have h67 := h65.below B67
  have r65' := r65.keep (S := fun _ => False) (Gr.below B67) (fun h => h)
  have nx := ap_next hi h67 ua ub hv
  have fin : ∀ k, ∃ (t171_68 : Int), ∃ (t171_69 : Int), ∃ (t171_70 : Int), ∃ (t171_71 : Int), ∃ (t171_72 : Int), CellsAt w67 (⟨w56.heap.size, 0, none⟩ : Addr) 0 [.int .i64 t171_68, .int .i64 t171_69, .int .i64 t171_70, .int .i64 t171_71, .int .i64 t171_72] ∧
      ∃ (t172_73 : Int), ∃ (t172_74 : Int), ∃ (t172_75 : Int), ∃ (t172_76 : Int), ∃ (t172_77 : Int), CellsAt w67 (⟨w65.heap.size, 0, none⟩ : Addr) 0 [.int .i64 t172_73, .int .i64 t172_74, .int .i64 t172_75, .int .i64 t172_76, .int .i64 t172_77] ∧
        ∃ (t173_78 : Bool), (do eqGuard .neq 87 (Operand.tmp 171) (Operand.tmp 172) (.agg #[.int .i64 t171_68, .int .i64 t171_69, .int .i64 t171_70, .int .i64 t171_71, .int .i64 t171_72] : Value) (.agg #[.int .i64 t172_73, .int .i64 t172_74, .int .i64 t172_75, .int .i64 t172_76, .int .i64 t172_77] : Value); binOp .neq 87 (.agg #[.int .i64 t171_68, .int .i64 t171_69, .int .i64 t171_70, .int .i64 t171_71, .int .i64 t171_72] : Value) (.agg #[.int .i64 t172_73, .int .i64 t172_74, .int .i64 t172_75, .int .i64 t172_76, .int .i64 t172_77] : Value) : Sem Value).run Try.prog w67 = .ok (.bool t173_78 : Value) w67 ∧
          ((t173_78 = true → false = true ∧ Below W.heap.size W w67) ∧ (t173_78 = false →
            ∃ (t178_79 : Bool), (do eqGuard .neq 4 (Operand.tmp 176) (Operand.tmp 177) (.bool k : Value) (.bool k : Value); binOp .neq 4 (.bool k : Value) (.bool k : Value) : Sem Value).run Try.prog w67 = .ok (.bool t178_79 : Value) w67 ∧
              ((t178_79 = true → false = true ∧ Below W.heap.size W w67) ∧ (t178_79 = false → F10_j2 (i : Int) (ApN W qa ba qb bb tn i) w67)))) := by
    intro k
    refine ⟨(getA ma tn).ms, (getA ma tn).mp, (getA ma tn).sr, (getA ma tn).wr, (getA ma tn).wi, r65'.at, (getA ma tn).ms, (getA ma tn).mp, (getA ma tn).sr, (getA ma tn).wr, (getA ma tn).wi, r67.at, false, neq87_same w67 _ _ (getA ma tn), (fun h => nomatch h), fun _ => ⟨_, neq_bool w67 _ _ k k, fun h => by simp at h, fun _ => nx⟩⟩
  refine ⟨fun hown => ⟨fun h => absurd (hxy (toList_iff.1 hown)) h, fun _ => ⟨fun h => absurd rfl h, fun _ => ⟨fun h => absurd rfl h, fun _ => fin _⟩⟩⟩, fun _ => ⟨fun h => absurd rfl h, fun _ => ⟨fun h => absurd rfl h, fun _ => fin _⟩⟩⟩
theorem F10_spec {w : World} {script : Sl} {ops : List QOp} (hs : RdR QOp.enc 11 w script ops) (ho : ∀ x ∈ ops, x.w ≤ 9223372036854775807 ∧ x.a.wi ≤ 9223372036854775807) : F10 tn script (fun r w1 => r = true ∧ Below w.heap.size w w1) w := by
  unfold F10
  have hsn := hs.1
  refine (C27 w).mono ?_
  rintro _ w4 ⟨_, rfl, rfl, b4⟩
  refine ⟨_, rfl, (OB.new2 b4).mono ?_⟩
  rintro _ w6 ⟨_, rfl, qa, ba, rfl, h6, _, _, _⟩
  refine ⟨_, rfl, (OB.new2 h6.bel).mono ?_⟩
  rintro _ w8 ⟨_, rfl, qb, bb, rfl, h8, hq8, hb8, b8⟩
  have hlt := h6.bk.lt
  have T : TB w w8 qa ba [] qb bb [] := ⟨h6.below b8, h8, by omega, by omega, by omega⟩
  refine ⟨_, rfl, (fun h => nomatch h), fun _ => ⟨(fun h => nomatch h), fun _ => ⟨(fun h => nomatch h), fun _ => ?_⟩⟩⟩
  clear h6 h8 hlt b8 hq8 hb8
  refine ⟨ApI w qa ba qb bb tn, fun s _ => (2000 - s).toNat, ⟨0, [], [], rfl, by omega, T, List.nodup_nil, List.nodup_nil, rfl⟩, ?_⟩
  rintro _ w10 ⟨i, ma, mb, rfl, hi, T, ua, ub, hv⟩
  show F10_l1 tn script _ (some ⟨qa, 0, none⟩) (some ⟨qb, 0, none⟩) (ApN w qa ba qb bb tn i) (i : Int) w10
  unfold F10_l1
  refine ⟨fun hlt => ⟨fun h2 => ?_, fun _ => ⟨rfl, T.a.bel⟩⟩, fun _ => ⟨rfl, T.a.bel⟩⟩
  have hio : i < ops.length := by omega
  have hi2 : i < 2000 := by omega
  obtain ⟨a, ha, hc⟩ := (hs.below T.a.bel).at i hio
  have hx := ho ops[i] (List.getElem_mem hio)
  generalize ops[i] = x at hc hx
  refine ⟨by omega, by omega, a, ha, x.kd, x.on, x.tn, x.w, x.n, x.m, x.a.ms, x.a.mp, x.a.sr, x.a.wr, x.a.wi, hc, ?_⟩
  intro w23 hw23
  have r23 : w23.heap[w10.heap.size]? = some (.cells #[.int .i64 0, .int .i64 0, .string ByteArray.empty, .int .i64 0, .int .i64 0, .int .i64 0, .int .i64 0, .int .i64 0, .int .i64 0, .int .i64 0, .int .i64 0] 89 (0, 0)) := by rw [hw23]; exact heap_alloc_new w10 _
  have b23 : Below w10.heap.size w10 w23 := by rw [hw23]; exact (Below.refl _ _).alloc (Nat.le_refl _) _
  clear hw23
  refine ⟨rowN_has r23 11 0 (by simp), ?_⟩
  intro w24 hw24
  obtain ⟨r24, g24⟩ : Row11 w24 w10.heap.size x ∧ Gr (fun k => k = w10.heap.size) w23 w24 := by rw [hw24]; exact rowN_full (vs := x.enc) r23 rfl
  clear hw24
  have T24 := T.below (b23.trans (g24.toBelow b23.size (fun k hk => by omega)))
  have hla := T.a.bk.lt
  have hlb := T.b.bk.lt
  have na : ¬ w10.heap.size = ba := by omega
  have nb : ¬ w10.heap.size = bb := by omega
  -- a step that another tenant, or the same one, takes
  have one : ∀ (wq : World) (ma' : Accs) (x10 y11 : Int), TB w wq qa ba ma' qb bb mb → Uniq ma' → Row11 wq w10.heap.size x → val ma' tn = val mb tn → (x.tn = tn → x10 = y11) →
      F10_j3 tn (fun r w1 => r = true ∧ Below w.heap.size w w1) (some ⟨qa, 0, none⟩) (some ⟨qb, 0, none⟩) (i : Int) (ApN w qa ba qb bb tn i) w10 x.tn x10 y11 wq :=
    fun wq ma' x10 y11 hT u hr hv hxy => ap_j3 hi2 hT u ub hv hr hxy
  refine ⟨_, r24.c0, fun h5 => ap_next hi2 T24 ua ub hv, fun h5 => ⟨_, r24.at 2, _, r24.c0, fun h0 => ?_, fun h0 => ⟨fun h1 => ?_, fun h1 => ?_⟩⟩⟩
  · refine ⟨_, r24.at 2, _, r24.at 4, _, r24.at 5, (T24.a.set x.tn x.n x.m).mono ?_⟩
    rintro _ w33 ⟨_, rfl, rfl, h33, g33⟩
    have T33 := T24.upA h33 g33
    have r33 := r24.keep g33 na
    refine ⟨_, rfl, fun hown => ?_, fun hnot => ?_⟩
    · have hown := toList_iff.1 hown
      refine ⟨_, r33.at 2, _, r33.at 4, _, r33.at 5, (T33.b.set x.tn x.n x.m).mono ?_⟩
      rintro _ w38 ⟨_, rfl, rfl, h38, g38⟩
      have T38 := T33.upB h38 g38
      have hcode : putC ma x.tn ⟨x.n, x.m, 0, 0, 0⟩ = putC mb x.tn ⟨x.n, x.m, 0, 0, 0⟩ := putC_val (by rw [hown]; exact hv) _
      refine ⟨_, rfl, ap_j3 hi2 T38 (uniq_putM ua _ _) (uniq_putM ub _ _) ?_ (r33.keep g38 nb) (fun _ => hcode)⟩
      rw [val_putM, val_putM, hcode, hv]
    · have hnot : ¬ x.tn = tn := fun h => hnot (toList_iff.2 h)
      refine one w33 _ _ _ T33 (uniq_putM ua _ _) r33 ?_ (fun h => absurd h hnot)
      rw [val_putM, if_neg (fun h => hnot h.2.symm)]; exact hv
  · refine ⟨_, r24.at 2, (T24.a.drop x.tn).mono ?_⟩
    rintro _ w33 ⟨_, rfl, rfl, h33, g33⟩
    have T33 := T24.upA h33 g33
    have r33 := r24.keep g33 na
    refine ⟨_, rfl, fun hown => ?_, fun hnot => ?_⟩
    · have hown := toList_iff.1 hown
      refine ⟨_, r33.at 2, (T33.b.drop x.tn).mono ?_⟩
      rintro _ w38 ⟨_, rfl, rfl, h38, g38⟩
      have T38 := T33.upB h38 g38
      refine ⟨_, rfl, ap_j3 hi2 T38 (uniq_del ua _) (uniq_del ub _) ?_ (r33.keep g38 nb) (fun _ => rfl)⟩
      rw [val_del ma _ _ ua, val_del mb _ _ ub, hv]
    · have hnot : ¬ x.tn = tn := fun h => hnot (toList_iff.2 h)
      refine one w33 _ _ _ T33 (uniq_del ua _) r33 ?_ (fun h => absurd h hnot)
      rw [val_del ma _ _ ua, if_neg (fun h => hnot h.symm)]; exact hv
  · have j4 : ∀ bq : Bool, F10_j4 tn (fun r w1 => r = true ∧ Below w.heap.size w w1) (some ⟨qa, 0, none⟩) (some ⟨qb, 0, none⟩) (i : Int) (ApN w qa ba qb bb tn i) w10 x.tn x.kd bq w24 := by
      intro bq
      unfold F10_j4
      refine ⟨fun _ => ?_, fun _ => ⟨fun _ => ?_, fun _ => one w24 ma _ _ T24 ua r24 hv (fun _ => rfl)⟩⟩
      · refine ⟨_, r24.at 2, _, r24.at 3, _, r24.at 4, _, r24.at 5, (T24.a.take x.tn x.w x.n x.m hx.1).mono ?_⟩
        rintro _ w33 ⟨_, rfl, rfl, h33, g33⟩
        have T33 := T24.upA h33 g33
        have r33 := r24.keep g33 na
        refine ⟨_, rfl, fun hown => ?_, fun hnot => ?_⟩
        · have hown := toList_iff.1 hown
          refine ⟨_, r33.at 2, _, r33.at 3, _, r33.at 4, _, r33.at 5, (T33.b.take x.tn x.w x.n x.m hx.1).mono ?_⟩
          rintro _ w38 ⟨_, rfl, rfl, h38, g38⟩
          have T38 := T33.upB h38 g38
          have hv' : val ma x.tn = val mb x.tn := by rw [hown]; exact hv
          have hcode := takeC_val hv' x.w x.n x.m
          refine ⟨_, rfl, ap_j3 hi2 T38 (uniq_takeM ua _ _ _ _) (uniq_takeM ub _ _ _ _) ?_ (r33.keep g38 nb) (fun _ => hcode)⟩
          rw [val_takeM, val_takeM, hcode, hv, getA_val ma, getA_val mb, hv']
        · have hnot : ¬ x.tn = tn := fun h => hnot (toList_iff.2 h)
          refine one w33 _ _ _ T33 (uniq_takeM ua _ _ _ _) r33 ?_ (fun h => absurd h hnot)
          rw [val_takeM, if_neg (fun h => hnot h.2.symm)]; exact hv
      · refine ⟨_, r24.at 2, x.a.ms, x.a.mp, x.a.sr, x.a.wr, x.a.wi, r24.acc, (T24.a.put x.tn x.a hx.2).mono ?_⟩
        rintro _ w33 ⟨_, rfl, rfl, h33, g33⟩
        have T33 := T24.upA h33 g33
        have r33 := r24.keep g33 na
        refine ⟨_, rfl, fun hown => ?_, fun hnot => ?_⟩
        · have hown := toList_iff.1 hown
          refine ⟨_, r33.at 2, x.a.ms, x.a.mp, x.a.sr, x.a.wr, x.a.wi, r33.acc, (T33.b.put x.tn x.a hx.2).mono ?_⟩
          rintro _ w38 ⟨_, rfl, rfl, h38, g38⟩
          have T38 := T33.upB h38 g38
          have hcode : putC ma x.tn x.a = putC mb x.tn x.a := putC_val (by rw [hown]; exact hv) _
          refine ⟨_, rfl, ap_j3 hi2 T38 (uniq_putM ua _ _) (uniq_putM ub _ _) ?_ (r33.keep g38 nb) (fun _ => hcode)⟩
          rw [val_putM, val_putM, hcode, hv]
        · have hnot : ¬ x.tn = tn := fun h => hnot (toList_iff.2 h)
          refine one w33 _ _ _ T33 (uniq_putM ua _ _) r33 ?_ (fun h => absurd h hnot)
          rw [val_putM, if_neg (fun h => hnot h.2.symm)]; exact hv
    exact ⟨fun _ => j4 _, fun _ => j4 _⟩
end
end Go.Proofs.Ythhcaaellhdkiaa
