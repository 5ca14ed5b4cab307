/- Printed by gen.py (own program, wip/): for each Go function a predicate transformer and its soundness. -/
import Derived.Test.YthhcaaellhdkiaaProg
import Derived.Test.YthhcaaellhdkiaaST
namespace Go.Proofs.Ythhcaaellhdkiaa
open Go Go.RowKit Go.Proofs.Ythhcaaellhdkiaa.SX
set_option linter.unusedVariables false

def F6_j1 (K : Bool → World → Prop) (t6_8 : Bool) (w_9 : World) : Prop :=
  K t6_8 w_9
def F6_j2 (K : Bool → World → Prop) (t6_10 : Bool) (w_11 : World) : Prop :=
  K t6_10 w_11
def F6_j3 (K : Bool → World → Prop) (t6_14 : Bool) (w_15 : World) : Prop :=
  K t6_14 w_15
def F6_j7 (i12_19 : Int) (next20 : (Int × Int × Int × Int) → World → Prop) (all9_45 : Int) (last10_46 : Int) (written11_47 : Int) (w_48 : World) : Prop :=
  next20 (all9_45, last10_46, written11_47, IntKind.i64.wrap (i12_19 + 1)) w_48
def F6_j8 (series0_1 : Int) (samples1_2 : Int) (K : Bool → World → Prop) (all9_16 : Int) (i12_19 : Int) (next20 : (Int × Int × Int × Int) → World → Prop) (w_20 : World) (last10_51 : Int) (written11_52 : Int) (w_53 : World) : Prop :=
  ∃ (t114_54 : Int), w_53.cell? ((⟨w_20.heap.size, 0, none⟩ : Addr).add 2) = some (.int .i64 t114_54) ∧
  ∃ (t118_55 : Int), w_53.cell? ((⟨w_20.heap.size, 0, none⟩ : Addr).add 1) = some (.int .i64 t118_55) ∧
  (((IntKind.i64.wrap (written11_52 + t114_54)) > samples1_2 →
  K false w_53) ∧
  (¬ ((IntKind.i64.wrap (written11_52 + t114_54)) > samples1_2) →
  (((IntKind.i64.wrap (all9_16 + t118_55)) > series0_1 →
  K false w_53) ∧
  (¬ ((IntKind.i64.wrap (all9_16 + t118_55)) > series0_1) →
  F6_j7 i12_19 next20 (IntKind.i64.wrap (all9_16 + t118_55)) last10_51 (IntKind.i64.wrap (written11_52 + t114_54)) w_53))))
def F6_j6 (series0_1 : Int) (samples1_2 : Int) (K : Bool → World → Prop) (all9_16 : Int) (last10_17 : Int) (written11_18 : Int) (i12_19 : Int) (next20 : (Int × Int × Int × Int) → World → Prop) (w_20 : World) (t79_36 : Int) (fits17_42 : Bool) (w_43 : World) : Prop :=
  ∃ (t103_44 : Bool), (do eqGuard .neq 4 (Operand.tmp 101) (Operand.tmp 102) (.bool ((t79_36 == 0)) : Value) (.bool fits17_42 : Value); binOp .neq 4 (.bool ((t79_36 == 0)) : Value) (.bool fits17_42 : Value)).run Try.prog w_43 = .ok (.bool t103_44 : Value) w_43 ∧
  ((t103_44 = true →
  K false w_43) ∧
  (t103_44 = false →
  ((fits17_42 = false →
  F6_j7 i12_19 next20 all9_16 last10_17 written11_18 w_43) ∧
  (fits17_42 = true →
  ∃ (t107_49 : Int), w_43.cell? (⟨w_20.heap.size, 0, none⟩ : Addr) = some (.int .i64 t107_49) ∧
  ((t107_49 > last10_17 →
  ∃ (t111_50 : Int), w_43.cell? (⟨w_20.heap.size, 0, none⟩ : Addr) = some (.int .i64 t111_50) ∧
  F6_j8 series0_1 samples1_2 K all9_16 i12_19 next20 w_20 t111_50 0 w_43) ∧
  (¬ (t107_49 > last10_17) →
  F6_j8 series0_1 samples1_2 K all9_16 i12_19 next20 w_20 last10_17 written11_18 w_43))))))
def F6_j5 (series0_1 : Int) (samples1_2 : Int) (K : Bool → World → Prop) (t19_6 : Option Addr) (all9_16 : Int) (last10_17 : Int) (written11_18 : Int) (i12_19 : Int) (next20 : (Int × Int × Int × Int) → World → Prop) (w_20 : World) (t52_28 : Int) (t52_29 : Int) (w_32 : World) : Prop :=
  ((¬ t52_28 = ((IntKind.i64.wrap (series0_1 - all9_16))) →
  K false w_32) ∧
  (t52_28 = ((IntKind.i64.wrap (series0_1 - all9_16))) →
  ∃ (t74_33 : Int), w_32.cell? (⟨w_20.heap.size, 0, none⟩ : Addr) = some (.int .i64 t74_33) ∧
  ∃ (t76_34 : Int), w_32.cell? ((⟨w_20.heap.size, 0, none⟩ : Addr).add 1) = some (.int .i64 t76_34) ∧
  ∃ (t78_35 : Int), w_32.cell? ((⟨w_20.heap.size, 0, none⟩ : Addr).add 2) = some (.int .i64 t78_35) ∧
  Calls Try.prog 31 #[.pointer t19_6, .string ((ByteArray.mk #[116])), .int .i64 t74_33, .int .i64 t76_34, .int .i64 t78_35] w_32 fun e w_37 => ∃ (t79_36 : Int), e = .returned (.int .i64 t79_36 : Value) ∧
  ∃ (t81_38 : Int), w_37.cell? ((⟨w_20.heap.size, 0, none⟩ : Addr).add 1) = some (.int .i64 t81_38) ∧
  ((t81_38 ≥ 0 →
  ∃ (t85_39 : Int), w_37.cell? ((⟨w_20.heap.size, 0, none⟩ : Addr).add 2) = some (.int .i64 t85_39) ∧
  ((t85_39 ≥ 0 →
  ∃ (t90_40 : Int), w_37.cell? ((⟨w_20.heap.size, 0, none⟩ : Addr).add 1) = some (.int .i64 t90_40) ∧
  ((t90_40 ≤ t52_28 →
  ∃ (t96_41 : Int), w_37.cell? ((⟨w_20.heap.size, 0, none⟩ : Addr).add 2) = some (.int .i64 t96_41) ∧
  F6_j6 series0_1 samples1_2 K all9_16 last10_17 written11_18 i12_19 next20 w_20 t79_36 (decide (t96_41 ≤ t52_29)) w_37) ∧
  (¬ (t90_40 ≤ t52_28) →
  F6_j6 series0_1 samples1_2 K all9_16 last10_17 written11_18 i12_19 next20 w_20 t79_36 false w_37))) ∧
  (¬ (t85_39 ≥ 0) →
  F6_j6 series0_1 samples1_2 K all9_16 last10_17 written11_18 i12_19 next20 w_20 t79_36 false w_37))) ∧
  (¬ (t81_38 ≥ 0) →
  F6_j6 series0_1 samples1_2 K all9_16 last10_17 written11_18 i12_19 next20 w_20 t79_36 false w_37))))
def F6_l4 (series0_1 : Int) (samples1_2 : Int) (takes2_3 : Sl) (K : Bool → World → Prop) (t19_6 : Option Addr) (next20 : (Int × Int × Int × Int) → World → Prop) : (Int × Int × Int × Int) → World → Prop := fun (all9_16, last10_17, written11_18, i12_19) w_20 =>
  ((i12_19 < ((takes2_3.n : Int)) →
  (0 : Int) ≤ i12_19 ∧ i12_19 < (takes2_3.n : Int) ∧ ∃ (a_21 : Addr), takes2_3.a = some a_21 ∧
  ∃ (t47_22 : Int), ∃ (t47_23 : Int), ∃ (t47_24 : Int), CellsAt w_20 (a_21.add (Int.toNat i12_19 * 3)) 0 [.int .i64 t47_22, .int .i64 t47_23, .int .i64 t47_24] ∧
  ∀ (w_25 : World), w_25 = w_20.alloc (.cells #[.int .i64 0, .int .i64 0, .int .i64 0] 53) →
  HasCells w_25 (⟨w_20.heap.size, 0, none⟩ : Addr) 0 3 ∧ ∀ (w_26 : World), w_26 = setCells w_25 (⟨w_20.heap.size, 0, none⟩ : Addr) 0 [.int .i64 t47_22, .int .i64 t47_23, .int .i64 t47_24] →
  ∃ (t51_27 : Int), w_26.cell? (⟨w_20.heap.size, 0, none⟩ : Addr) = some (.int .i64 t51_27) ∧
  Calls Try.prog 30 #[.pointer t19_6, .string ((ByteArray.mk #[116])), .int .i64 t51_27] w_26 fun e w_30 => ∃ (t52_28 : Int), ∃ (t52_29 : Int), e = .returned (.tuple #[.int .i64 t52_28, .int .i64 t52_29] : Value) ∧
  ∃ (t56_31 : Int), w_30.cell? (⟨w_20.heap.size, 0, none⟩ : Addr) = some (.int .i64 t56_31) ∧
  ((t56_31 > last10_17 →
  ((¬ t52_29 = samples1_2 →
  K false w_30) ∧
  (t52_29 = samples1_2 →
  F6_j5 series0_1 samples1_2 K t19_6 all9_16 last10_17 written11_18 i12_19 next20 w_20 t52_28 t52_29 w_30))) ∧
  (¬ (t56_31 > last10_17) →
  ((¬ t52_29 = ((IntKind.i64.wrap (samples1_2 - written11_18))) →
  K false w_30) ∧
  (t52_29 = ((IntKind.i64.wrap (samples1_2 - written11_18))) →
  F6_j5 series0_1 samples1_2 K t19_6 all9_16 last10_17 written11_18 i12_19 next20 w_20 t52_28 t52_29 w_30))))) ∧
  (¬ (i12_19 < ((takes2_3.n : Int))) →
  K true w_20))
/-- turnkey/turnkeylaw15.QuotaBounds -/
def F6 (series0_1 : Int) (samples1_2 : Int) (takes2_3 : Sl) (K : Bool → World → Prop) (w : World) : Prop :=
  Calls Try.prog 27 #[] w fun e w_5 => ∃ (t18_4 : Bool), e = .returned (.bool t18_4 : Value) ∧
  Calls Try.prog 28 #[] w_5 fun e w_7 => ∃ (t19_6 : Option Addr), e = .returned (.pointer t19_6 : Value) ∧
  ((t18_4 = false →
  ((t18_4 = true →
  F6_j1 K (!(t19_6.isNone)) w_7) ∧
  (t18_4 = false →
  F6_j1 K false w_7))) ∧
  (t18_4 = true →
  ((t19_6.isNone = true →
  ((t18_4 = true →
  F6_j2 K (!(t19_6.isNone)) w_7) ∧
  (t18_4 = false →
  F6_j2 K false w_7))) ∧
  (t19_6.isNone = false →
  Calls Try.prog 29 #[.pointer t19_6, .string ((ByteArray.mk #[116])), .int .i64 series0_1, .int .i64 samples1_2] w_7 fun e w_13 => ∃ (t30_12 : Int), e = .returned (.int .i64 t30_12 : Value) ∧
  ((¬ t30_12 = 0 →
  ((t18_4 = true →
  F6_j3 K (!(t19_6.isNone)) w_13) ∧
  (t18_4 = false →
  F6_j3 K false w_13))) ∧
  (t30_12 = 0 →
  kLoop (F6_l4 series0_1 samples1_2 takes2_3 K t19_6) (0, 0, 0, 0) w_13))))))
set_option maxHeartbeats 4000000 in
set_option maxRecDepth 20000 in
theorem F6_sound (series0_1 : Int) (samples1_2 : Int) (takes2_3 : Sl) (K : Bool → World → Prop) (w : World) (h : F6 series0_1 samples1_2 takes2_3 K w) :
    Calls Try.prog 6 #[.int .i64 series0_1, .int .i64 samples1_2, .slice takes2_3.a takes2_3.n takes2_3.c] w (fun e w1 => ∃ (r0 : Bool), e = .returned (.bool r0 : Value) ∧ K r0 w1) := by
  unfold F6 at h
  refine y_enter (n := 128) (args := [.int .i64 series0_1, .int .i64 samples1_2, .slice takes2_3.a takes2_3.n takes2_3.c]) Try.func6 rfl rfl rfl fun Q0 hQ0 => ?_
  refine y_seq fun K1 hK1 => ?_
  refine y_region ?_
  refine y_k (.bool false : Value) w rfl rfl rfl (by kernel_rfl) ?_
  refine y_nil ?_
  refine y_then (hK1 _ _ ?_)
  refine y_seq fun K2 hK2 => ?_
  refine y_region ?_
  refine y_call rfl rfl rfl (by kernel_rfl) (h.mono ?_)
  rintro _ w_5 ⟨t18_4, rfl, h⟩
  refine ⟨_, rfl, ?_⟩
  refine y_k (.bool t18_4 : Value) w_5 rfl rfl rfl (by kernel_rfl) ?_
  refine y_nil ?_
  refine y_then (hK2 _ _ ?_)
  refine y_seq fun K3 hK3 => ?_
  refine y_region ?_
  refine y_call rfl rfl rfl (by kernel_rfl) (h.mono ?_)
  rintro _ w_7 ⟨t19_6, rfl, h⟩
  refine ⟨_, rfl, ?_⟩
  refine y_k (.pointer t19_6 : Value) w_7 rfl rfl rfl (by kernel_rfl) ?_
  refine y_nil ?_
  refine y_then (hK3 _ _ ?_)
  refine y_seq fun K4 hK4 => ?_
  refine y_seq fun K5 hK5 => ?_
  refine y_region ?_
  refine y_k (.bool t18_4 : Value) w_7 rfl rfl rfl (by kernel_rfl) ?_
  refine y_k (.bool (!(t18_4)) : Value) w_7 rfl rfl rfl (by kernel_rfl) ?_
  refine y_k (.bool (!(t18_4)) : Value) w_7 rfl rfl rfl (by kernel_rfl) ?_
  refine y_fork (!(t18_4)) (fun hb6 => ?_) (fun hb6 => ?_)
  · replace h := h.1 ((not_true_of hb6))
    refine y_frame (upd_id (i := 22) (v := .bool true) rfl (congrArg Value.bool hb6)) ?_
    refine y_gno rfl rfl rfl rfl ?_
    refine y_gno rfl rfl rfl rfl ?_
    refine y_k (.bool true : Value) w_7 rfl rfl rfl (by kernel_rfl) ?_
    refine y_k (.bool true : Value) w_7 rfl rfl rfl (by kernel_rfl) ?_
    refine y_gno rfl rfl rfl rfl ?_
    refine y_gno rfl rfl rfl rfl ?_
    refine y_gno rfl rfl rfl rfl ?_
    refine y_gno rfl rfl rfl rfl ?_
    refine y_gno rfl rfl rfl rfl ?_
    refine y_k (.bool true : Value) w_7 rfl rfl rfl (by kernel_rfl) ?_
    refine y_nil ?_
    refine y_then (hK5 _ _ ?_)
    refine y_cond_t rfl rfl ?_
    refine y_seq fun K7 hK7 => ?_
    have hjK7 : ∀ (f : Fr) (t6_8 : Bool) (w_9 : World), f 6 = (.bool t6_8 : Value) → F6_j1 K t6_8 w_9 → WK K7 128 f w_9 := by
      intro f t6_8 w_9 e6 h
      refine y_atf (upd_id rfl e6) ?_
      clear e6
      unfold F6_j1 at h
      refine hK7 _ _ ?_
      refine y_ret ?_
      repeat (first | refine e_then_r ?_ | refine e_block_r ?_)
      exact (hQ0 _ _ _ (res1 (v := (.bool t6_8 : Value)) rfl rfl rfl) ⟨_, rfl, h⟩).1
    refine y_region ?_
    refine y_k (.bool t18_4 : Value) w_7 rfl rfl rfl (by kernel_rfl) ?_
    refine y_k (.bool t18_4 : Value) w_7 rfl rfl rfl (by kernel_rfl) ?_
    refine y_fork (t18_4) (fun hb8 => ?_) (fun hb8 => ?_)
    · replace h := h.1 (hb8)
      refine y_frame (upd_id (i := 34) (v := .bool true) rfl (congrArg Value.bool hb8)) ?_
      refine y_gyes rfl rfl rfl ?_
      refine y_k (.pointer t19_6 : Value) w_7 rfl rfl rfl (by kernel_rfl) ?_
      refine y_gyes rfl rfl rfl ?_
      refine y_v (v := (.bool (!(t19_6.isNone)) : Value)) (s := do eqGuard .neq 48 (Operand.tmp 35) (Operand.const (Value.pointer none)) (.pointer t19_6 : Value) (.pointer none : Value); binOp .neq 48 (.pointer t19_6 : Value) (.pointer none : Value)) rfl rfl rfl (by kernel_rfl) (run_neq_ptrnil (by kernel_rfl)) ?_
      refine y_k (.bool (!(t19_6.isNone)) : Value) w_7 rfl rfl rfl (by kernel_rfl) ?_
      refine y_k (.bool (!(t19_6.isNone)) : Value) w_7 rfl rfl rfl (by kernel_rfl) ?_
      refine y_nil ?_
      exact y_then (hjK7 _ (!(t19_6.isNone)) w_7 rfl h)
    · replace h := h.2 (hb8)
      refine y_frame (upd_id (i := 34) (v := .bool false) rfl (congrArg Value.bool hb8)) ?_
      refine y_gno rfl rfl rfl rfl ?_
      refine y_gno rfl rfl rfl rfl ?_
      refine y_k (.bool false : Value) w_7 rfl rfl rfl (by kernel_rfl) ?_
      refine y_k (.bool false : Value) w_7 rfl rfl rfl (by kernel_rfl) ?_
      refine y_nil ?_
      exact y_then (hjK7 _ false w_7 rfl h)
  · replace h := h.2 ((not_false_of hb6))
    refine y_frame (upd_id (i := 22) (v := .bool false) rfl (congrArg Value.bool hb6)) ?_
    refine y_gyes rfl rfl rfl ?_
    refine y_k (.pointer t19_6 : Value) w_7 rfl rfl rfl (by kernel_rfl) ?_
    refine y_gyes rfl rfl rfl ?_
    refine y_v (v := (.bool t19_6.isNone : Value)) (s := do eqGuard .eql 48 (Operand.tmp 23) (Operand.const (Value.pointer none)) (.pointer t19_6 : Value) (.pointer none : Value); binOp .eql 48 (.pointer t19_6 : Value) (.pointer none : Value)) rfl rfl rfl (by kernel_rfl) (run_eql_ptrnil (by kernel_rfl)) ?_
    refine y_k (.bool t19_6.isNone : Value) w_7 rfl rfl rfl (by kernel_rfl) ?_
    refine y_k (.bool t19_6.isNone : Value) w_7 rfl rfl rfl (by kernel_rfl) ?_
    refine y_fork (t19_6.isNone) (fun hb9 => ?_) (fun hb9 => ?_)
    · replace h := h.1 (hb9)
      refine y_frame (upd_id (i := 26) (v := .bool true) rfl (congrArg Value.bool hb9)) ?_
      refine y_gno rfl rfl rfl rfl ?_
      refine y_gno rfl rfl rfl rfl ?_
      refine y_gno rfl rfl rfl rfl ?_
      refine y_gno rfl rfl rfl rfl ?_
      refine y_gno rfl rfl rfl rfl ?_
      refine y_k (.bool true : Value) w_7 rfl rfl rfl (by kernel_rfl) ?_
      refine y_nil ?_
      refine y_then (hK5 _ _ ?_)
      refine y_cond_t rfl rfl ?_
      refine y_seq fun K10 hK10 => ?_
      have hjK10 : ∀ (f : Fr) (t6_10 : Bool) (w_11 : World), f 6 = (.bool t6_10 : Value) → F6_j2 K t6_10 w_11 → WK K10 128 f w_11 := by
        intro f t6_10 w_11 e6 h
        refine y_atf (upd_id rfl e6) ?_
        clear e6
        unfold F6_j2 at h
        refine hK10 _ _ ?_
        refine y_ret ?_
        repeat (first | refine e_then_r ?_ | refine e_block_r ?_)
        exact (hQ0 _ _ _ (res1 (v := (.bool t6_10 : Value)) rfl rfl rfl) ⟨_, rfl, h⟩).1
      refine y_region ?_
      refine y_k (.bool t18_4 : Value) w_7 rfl rfl rfl (by kernel_rfl) ?_
      refine y_k (.bool t18_4 : Value) w_7 rfl rfl rfl (by kernel_rfl) ?_
      refine y_fork (t18_4) (fun hb11 => ?_) (fun hb11 => ?_)
      · replace h := h.1 (hb11)
        refine y_frame (upd_id (i := 34) (v := .bool true) rfl (congrArg Value.bool hb11)) ?_
        refine y_gyes rfl rfl rfl ?_
        refine y_k (.pointer t19_6 : Value) w_7 rfl rfl rfl (by kernel_rfl) ?_
        refine y_gyes rfl rfl rfl ?_
        refine y_v (v := (.bool (!(t19_6.isNone)) : Value)) (s := do eqGuard .neq 48 (Operand.tmp 35) (Operand.const (Value.pointer none)) (.pointer t19_6 : Value) (.pointer none : Value); binOp .neq 48 (.pointer t19_6 : Value) (.pointer none : Value)) rfl rfl rfl (by kernel_rfl) (run_neq_ptrnil (by kernel_rfl)) ?_
        refine y_k (.bool (!(t19_6.isNone)) : Value) w_7 rfl rfl rfl (by kernel_rfl) ?_
        refine y_k (.bool (!(t19_6.isNone)) : Value) w_7 rfl rfl rfl (by kernel_rfl) ?_
        refine y_nil ?_
        exact y_then (hjK10 _ (!(t19_6.isNone)) w_7 rfl h)
      · replace h := h.2 (hb11)
        refine y_frame (upd_id (i := 34) (v := .bool false) rfl (congrArg Value.bool hb11)) ?_
        refine y_gno rfl rfl rfl rfl ?_
        refine y_gno rfl rfl rfl rfl ?_
        refine y_k (.bool false : Value) w_7 rfl rfl rfl (by kernel_rfl) ?_
        refine y_k (.bool false : Value) w_7 rfl rfl rfl (by kernel_rfl) ?_
        refine y_nil ?_
        exact y_then (hjK10 _ false w_7 rfl h)
    · replace h := h.2 (hb9)
      refine y_frame (upd_id (i := 26) (v := .bool false) rfl (congrArg Value.bool hb9)) ?_
      refine y_gyes rfl rfl rfl ?_
      refine y_k (.pointer t19_6 : Value) w_7 rfl rfl rfl (by kernel_rfl) ?_
      refine y_gyes rfl rfl rfl ?_
      refine y_k (.int .i64 series0_1 : Value) w_7 rfl rfl rfl (by kernel_rfl) ?_
      refine y_gyes rfl rfl rfl ?_
      refine y_k (.int .i64 samples1_2 : Value) w_7 rfl rfl rfl (by kernel_rfl) ?_
      refine y_gyes rfl rfl rfl ?_
      refine y_call rfl rfl rfl (by kernel_rfl) (h.mono ?_)
      rintro _ w_13 ⟨t30_12, rfl, h⟩
      refine ⟨_, rfl, ?_⟩
      refine y_gyes rfl rfl rfl ?_
      refine y_k (.bool ((t30_12 != 0)) : Value) w_13 rfl rfl rfl (by kernel_rfl) ?_
      refine y_k (.bool ((t30_12 != 0)) : Value) w_13 rfl rfl rfl (by kernel_rfl) ?_
      refine y_nil ?_
      refine y_then (hK5 _ _ ?_)
      refine y_cond ((t30_12 != 0)) rfl rfl (fun hb83 => ?_) (fun hb83 => ?_)
      · replace h := h.1 (bne_iff_ne.mp hb83)
        refine y_seq fun K12 hK12 => ?_
        have hjK12 : ∀ (f : Fr) (t6_14 : Bool) (w_15 : World), f 6 = (.bool t6_14 : Value) → F6_j3 K t6_14 w_15 → WK K12 128 f w_15 := by
          intro f t6_14 w_15 e6 h
          refine y_atf (upd_id rfl e6) ?_
          clear e6
          unfold F6_j3 at h
          refine hK12 _ _ ?_
          refine y_ret ?_
          repeat (first | refine e_then_r ?_ | refine e_block_r ?_)
          exact (hQ0 _ _ _ (res1 (v := (.bool t6_14 : Value)) rfl rfl rfl) ⟨_, rfl, h⟩).1
        refine y_region ?_
        refine y_k (.bool t18_4 : Value) w_13 rfl rfl rfl (by kernel_rfl) ?_
        refine y_k (.bool t18_4 : Value) w_13 rfl rfl rfl (by kernel_rfl) ?_
        refine y_fork (t18_4) (fun hb13 => ?_) (fun hb13 => ?_)
        · replace h := h.1 (hb13)
          refine y_frame (upd_id (i := 34) (v := .bool true) rfl (congrArg Value.bool hb13)) ?_
          refine y_gyes rfl rfl rfl ?_
          refine y_k (.pointer t19_6 : Value) w_13 rfl rfl rfl (by kernel_rfl) ?_
          refine y_gyes rfl rfl rfl ?_
          refine y_v (v := (.bool (!(t19_6.isNone)) : Value)) (s := do eqGuard .neq 48 (Operand.tmp 35) (Operand.const (Value.pointer none)) (.pointer t19_6 : Value) (.pointer none : Value); binOp .neq 48 (.pointer t19_6 : Value) (.pointer none : Value)) rfl rfl rfl (by kernel_rfl) (run_neq_ptrnil (by kernel_rfl)) ?_
          refine y_k (.bool (!(t19_6.isNone)) : Value) w_13 rfl rfl rfl (by kernel_rfl) ?_
          refine y_k (.bool (!(t19_6.isNone)) : Value) w_13 rfl rfl rfl (by kernel_rfl) ?_
          refine y_nil ?_
          exact y_then (hjK12 _ (!(t19_6.isNone)) w_13 rfl h)
        · replace h := h.2 (hb13)
          refine y_frame (upd_id (i := 34) (v := .bool false) rfl (congrArg Value.bool hb13)) ?_
          refine y_gno rfl rfl rfl rfl ?_
          refine y_gno rfl rfl rfl rfl ?_
          refine y_k (.bool false : Value) w_13 rfl rfl rfl (by kernel_rfl) ?_
          refine y_k (.bool false : Value) w_13 rfl rfl rfl (by kernel_rfl) ?_
          refine y_nil ?_
          exact y_then (hjK12 _ false w_13 rfl h)
      · replace h := h.2 (bne_eq_false_iff_eq.mp hb83)
        refine y_skip ?_
        refine y_then (hK4 _ _ ?_)
        refine y_seq fun K14 hK14 => ?_
        refine y_region ?_
        refine y_k (.int .i64 0 : Value) w_13 rfl rfl rfl (by kernel_rfl) ?_
        refine y_nil ?_
        refine y_then (hK14 _ _ ?_)
        refine y_seq fun K15 hK15 => ?_
        refine y_region ?_
        refine y_k (.int .i64 0 : Value) w_13 rfl rfl rfl (by kernel_rfl) ?_
        refine y_nil ?_
        refine y_then (hK15 _ _ ?_)
        refine y_seq fun K16 hK16 => ?_
        refine y_region ?_
        refine y_k (.int .i64 0 : Value) w_13 rfl rfl rfl (by kernel_rfl) ?_
        refine y_nil ?_
        refine y_then (hK16 _ _ ?_)
        refine y_seq fun K17 hK17 => ?_
        refine y_seq fun K18 hK18 => ?_
        refine y_region ?_
        refine y_k (.int .i64 0 : Value) w_13 rfl rfl rfl (by kernel_rfl) ?_
        refine y_nil ?_
        refine y_then (hK18 _ _ ?_)
        refine y_block ?_
        refine y_loop (S := Int × Int × Int × Int) (fun s j => match s with | (all9_16, last10_17, written11_18, i12_19) => upd (upd (upd (upd (upd (upd (upd (upd (j) 0 (.int .i64 series0_1 : Value)) 1 (.int .i64 samples1_2 : Value)) 2 (.slice takes2_3.a takes2_3.n takes2_3.c : Value)) 8 (.pointer t19_6 : Value)) 9 (.int .i64 all9_16 : Value)) 10 (.int .i64 last10_17 : Value)) 11 (.int .i64 written11_18 : Value)) 12 (.int .i64 i12_19 : Value)) (0, 0, 0, 0) ?_ h ?_
        · dsimp only
          refine upd_id ?_ rfl
          refine upd_id ?_ rfl
          refine upd_id ?_ rfl
          refine upd_id ?_ rfl
          refine upd_id ?_ rfl
          refine upd_id ?_ rfl
          refine upd_id ?_ rfl
          refine upd_id ?_ rfl
          rfl
        rintro KN21 next20 hN21 ⟨all9_16, last10_17, written11_18, i12_19⟩ j w_20 h
        unfold F6_l4 at h
        refine y_seq fun K22 hK22 => ?_
        refine y_seq fun K23 hK23 => ?_
        refine y_region ?_
        refine y_k (.int .i64 i12_19 : Value) w_20 rfl rfl rfl (by kernel_rfl) ?_
        refine y_k (.slice takes2_3.a takes2_3.n takes2_3.c : Value) w_20 rfl rfl rfl (by kernel_rfl) ?_
        refine y_k (.int .i64 ((takes2_3.n : Int)) : Value) w_20 rfl rfl rfl (by kernel_rfl) ?_
        refine y_k (.bool (decide (i12_19 < ((takes2_3.n : Int)))) : Value) w_20 rfl rfl rfl (by kernel_rfl) ?_
        refine y_nil ?_
        refine y_then (hK23 _ _ ?_)
        refine y_cond (decide (i12_19 < ((takes2_3.n : Int)))) rfl rfl (fun hb82 => ?_) (fun hb82 => ?_)
        · replace h := h.1 (of_decide_eq_true hb82)
          refine y_skip ?_
          refine y_then (hK22 _ _ ?_)
          refine y_seq fun K24 hK24 => ?_
          have hjK24 : ∀ (f : Fr) (all9_45 : Int) (last10_46 : Int) (written11_47 : Int) (w_48 : World), f 0 = (.int .i64 series0_1 : Value) → f 1 = (.int .i64 samples1_2 : Value) → f 2 = (.slice takes2_3.a takes2_3.n takes2_3.c : Value) → f 8 = (.pointer t19_6 : Value) → f 9 = (.int .i64 all9_45 : Value) → f 10 = (.int .i64 last10_46 : Value) → f 11 = (.int .i64 written11_47 : Value) → f 12 = (.int .i64 i12_19 : Value) → F6_j7 i12_19 next20 all9_45 last10_46 written11_47 w_48 → WK K24 128 f w_48 := by
            intro f all9_45 last10_46 written11_47 w_48 e0 e1 e2 e8 e9 e10 e11 e12 h
            refine y_atf (upd_id (upd_id (upd_id (upd_id (upd_id (upd_id (upd_id (upd_id rfl e0) e1) e2) e8) e9) e10) e11) e12) ?_
            clear e0 e1 e2 e8 e9 e10 e11 e12
            unfold F6_j7 at h
            refine hK24 _ _ ?_
            refine y_region ?_
            refine y_k (.int .i64 i12_19 : Value) w_48 rfl rfl rfl (by kernel_rfl) ?_
            refine y_k (.int .i64 (IntKind.i64.wrap (i12_19 + 1)) : Value) w_48 rfl rfl rfl (by kernel_rfl) ?_
            refine y_k (.int .i64 (IntKind.i64.wrap (i12_19 + 1)) : Value) w_48 rfl rfl rfl (by kernel_rfl) ?_
            refine y_nil ?_
            refine y_then (hN21 (all9_45, last10_46, written11_47, IntKind.i64.wrap (i12_19 + 1)) _ _ h ?_)
            dsimp only
            refine upd_id ?_ rfl
            refine upd_id ?_ rfl
            refine upd_id ?_ rfl
            refine upd_id ?_ rfl
            refine upd_id ?_ rfl
            refine upd_id ?_ rfl
            refine upd_id ?_ rfl
            refine upd_id ?_ rfl
            rfl
          refine y_block ?_
          refine y_seq fun K26 hK26 => ?_
          refine y_region ?_
          refine y_k (.slice takes2_3.a takes2_3.n takes2_3.c : Value) w_20 rfl rfl rfl (by kernel_rfl) ?_
          refine y_k (.int .i64 i12_19 : Value) w_20 rfl rfl rfl (by kernel_rfl) ?_
          obtain ⟨hx27a, hx27b, a_21, hx27, h⟩ := h
          refine y_v (v := (.pointer (some (a_21.add (Int.toNat i12_19 * 3))) : Value)) (s := Instr.indexAt 47 (.slice takes2_3.a takes2_3.n takes2_3.c : Value) (.int .i64 i12_19 : Value)) rfl rfl rfl (by kernel_rfl) (run_ixs (el := 53) (by kernel_rfl) (by kernel_rfl) hx27 hx27a hx27b) ?_
          obtain ⟨t47_22, t47_23, t47_24, hx28, h⟩ := h
          refine y_v (s := Instr.loadAt 53 (.pointer (some (a_21.add (Int.toNat i12_19 * 3))))) rfl rfl rfl (by kernel_rfl) (rn_loadcells (k := 3) ⟨by kernel_rfl, by kernel_rfl⟩ rfl hx28) ?_
          refine y_k (.pointer (some (⟨w_20.heap.size, 0, none⟩ : Addr)) : Value) (w_20.alloc (.cells #[.int .i64 0, .int .i64 0, .int .i64 0] 53)) rfl rfl rfl (by kernel_rfl) ?_
          replace h := h _ rfl
          generalize w_20.alloc (.cells #[.int .i64 0, .int .i64 0, .int .i64 0] 53) = w_25 at h ⊢
          obtain ⟨hx29, h⟩ := h
          replace h := h _ rfl
          refine y_u (s := Instr.storeAt 53 (.pointer (some (⟨w_20.heap.size, 0, none⟩ : Addr))) (.agg #[.int .i64 t47_22, .int .i64 t47_23, .int .i64 t47_24] : Value)) rfl rfl (by kernel_rfl) (rn_storecells (k := 3) (cs := [.int .i64 t47_22, .int .i64 t47_23, .int .i64 t47_24]) (by kernel_rfl) rfl (by simp [Value.oneCell']) hx29) ?_
          generalize setCells w_25 (⟨w_20.heap.size, 0, none⟩ : Addr) 0 [.int .i64 t47_22, .int .i64 t47_23, .int .i64 t47_24] = w_26 at h ⊢
          refine y_nil ?_
          refine y_then (hK26 _ _ ?_)
          refine y_seq fun K30 hK30 => ?_
          refine y_region ?_
          refine y_k (.pointer t19_6 : Value) w_26 rfl rfl rfl (by kernel_rfl) ?_
          refine y_k (.pointer (some (⟨w_20.heap.size, 0, none⟩ : Addr)) : Value) w_26 rfl rfl rfl (by kernel_rfl) ?_
          obtain ⟨t51_27, hx31, h⟩ := h
          refine y_v (s := Instr.loadAt 2 (.pointer (some (⟨w_20.heap.size, 0, none⟩ : Addr)))) rfl rfl rfl (by kernel_rfl) (rn_load (by kernel_rfl) hx31) ?_
          refine y_call rfl rfl rfl (by kernel_rfl) (h.mono ?_)
          rintro _ w_30 ⟨t52_28, t52_29, rfl, h⟩
          refine ⟨_, rfl, ?_⟩
          refine y_k (.tuple #[.int .i64 t52_28, .int .i64 t52_29] : Value) w_30 rfl rfl rfl (by kernel_rfl) ?_
          refine y_k (.int .i64 t52_28 : Value) w_30 rfl rfl rfl (by kernel_rfl) ?_
          refine y_k (.int .i64 t52_29 : Value) w_30 rfl rfl rfl (by kernel_rfl) ?_
          refine y_k (.int .i64 t52_28 : Value) w_30 rfl rfl rfl (by kernel_rfl) ?_
          refine y_k (.int .i64 t52_29 : Value) w_30 rfl rfl rfl (by kernel_rfl) ?_
          refine y_nil ?_
          refine y_then (hK30 _ _ ?_)
          refine y_seq fun K32 hK32 => ?_
          have hjK32 : ∀ (f : Fr) (w_32 : World), f 0 = (.int .i64 series0_1 : Value) → f 1 = (.int .i64 samples1_2 : Value) → f 2 = (.slice takes2_3.a takes2_3.n takes2_3.c : Value) → f 8 = (.pointer t19_6 : Value) → f 9 = (.int .i64 all9_16 : Value) → f 10 = (.int .i64 last10_17 : Value) → f 11 = (.int .i64 written11_18 : Value) → f 12 = (.int .i64 i12_19 : Value) → f 13 = (.pointer (some (⟨w_20.heap.size, 0, none⟩ : Addr)) : Value) → f 14 = (.int .i64 t52_28 : Value) → f 15 = (.int .i64 t52_29 : Value) → F6_j5 series0_1 samples1_2 K t19_6 all9_16 last10_17 written11_18 i12_19 next20 w_20 t52_28 t52_29 w_32 → WK K32 128 f w_32 := by
            intro f  w_32 e0 e1 e2 e8 e9 e10 e11 e12 e13 e14 e15 h
            refine y_atf (upd_id (upd_id (upd_id (upd_id (upd_id (upd_id (upd_id (upd_id (upd_id (upd_id (upd_id rfl e0) e1) e2) e8) e9) e10) e11) e12) e13) e14) e15) ?_
            clear e0 e1 e2 e8 e9 e10 e11 e12 e13 e14 e15
            unfold F6_j5 at h
            refine hK32 _ _ ?_
            refine y_seq fun K37 hK37 => ?_
            refine y_seq fun K38 hK38 => ?_
            refine y_region ?_
            refine y_k (.int .i64 t52_28 : Value) w_32 rfl rfl rfl (by kernel_rfl) ?_
            refine y_k (.int .i64 series0_1 : Value) w_32 rfl rfl rfl (by kernel_rfl) ?_
            refine y_k (.int .i64 all9_16 : Value) w_32 rfl rfl rfl (by kernel_rfl) ?_
            refine y_k (.int .i64 (IntKind.i64.wrap (series0_1 - all9_16)) : Value) w_32 rfl rfl rfl (by kernel_rfl) ?_
            refine y_k (.bool ((t52_28 != ((IntKind.i64.wrap (series0_1 - all9_16))))) : Value) w_32 rfl rfl rfl (by kernel_rfl) ?_
            refine y_nil ?_
            refine y_then (hK38 _ _ ?_)
            refine y_cond ((t52_28 != ((IntKind.i64.wrap (series0_1 - all9_16))))) rfl rfl (fun hb75 => ?_) (fun hb75 => ?_)
            · replace h := h.1 (bne_iff_ne.mp hb75)
              refine y_seq fun K39 hK39 => ?_
              refine y_region ?_
              refine y_k (.bool false : Value) w_32 rfl rfl rfl (by kernel_rfl) ?_
              refine y_nil ?_
              refine y_then (hK39 _ _ ?_)
              refine y_ret ?_
              repeat (first | refine e_then_r ?_ | refine e_block_r ?_)
              exact (hQ0 _ _ _ (res1 (v := (.bool false : Value)) rfl rfl rfl) ⟨_, rfl, h⟩).1
            · replace h := h.2 (bne_eq_false_iff_eq.mp hb75)
              refine y_skip ?_
              refine y_then (hK37 _ _ ?_)
              refine y_seq fun K40 hK40 => ?_
              refine y_region ?_
              refine y_k (.pointer t19_6 : Value) w_32 rfl rfl rfl (by kernel_rfl) ?_
              refine y_k (.pointer (some (⟨w_20.heap.size, 0, none⟩ : Addr)) : Value) w_32 rfl rfl rfl (by kernel_rfl) ?_
              obtain ⟨t74_33, hx41, h⟩ := h
              refine y_v (s := Instr.loadAt 2 (.pointer (some (⟨w_20.heap.size, 0, none⟩ : Addr)))) rfl rfl rfl (by kernel_rfl) (rn_load (by kernel_rfl) hx41) ?_
              refine y_k (.pointer (some ((⟨w_20.heap.size, 0, none⟩ : Addr).add 1)) : Value) w_32 rfl rfl rfl (by kernel_rfl) ?_
              obtain ⟨t76_34, hx42, h⟩ := h
              refine y_v (s := Instr.loadAt 3 (.pointer (some ((⟨w_20.heap.size, 0, none⟩ : Addr).add 1)))) rfl rfl rfl (by kernel_rfl) (rn_load (by kernel_rfl) hx42) ?_
              refine y_k (.pointer (some ((⟨w_20.heap.size, 0, none⟩ : Addr).add 2)) : Value) w_32 rfl rfl rfl (by kernel_rfl) ?_
              obtain ⟨t78_35, hx43, h⟩ := h
              refine y_v (s := Instr.loadAt 3 (.pointer (some ((⟨w_20.heap.size, 0, none⟩ : Addr).add 2)))) rfl rfl rfl (by kernel_rfl) (rn_load (by kernel_rfl) hx43) ?_
              refine y_call rfl rfl rfl (by kernel_rfl) (h.mono ?_)
              rintro _ w_37 ⟨t79_36, rfl, h⟩
              refine ⟨_, rfl, ?_⟩
              refine y_k (.int .i64 t79_36 : Value) w_37 rfl rfl rfl (by kernel_rfl) ?_
              refine y_nil ?_
              refine y_then (hK40 _ _ ?_)
              refine y_seq fun K44 hK44 => ?_
              have hjK44 : ∀ (f : Fr) (fits17_42 : Bool) (w_43 : World), f 0 = (.int .i64 series0_1 : Value) → f 1 = (.int .i64 samples1_2 : Value) → f 2 = (.slice takes2_3.a takes2_3.n takes2_3.c : Value) → f 8 = (.pointer t19_6 : Value) → f 9 = (.int .i64 all9_16 : Value) → f 10 = (.int .i64 last10_17 : Value) → f 11 = (.int .i64 written11_18 : Value) → f 12 = (.int .i64 i12_19 : Value) → f 13 = (.pointer (some (⟨w_20.heap.size, 0, none⟩ : Addr)) : Value) → f 16 = (.int .i64 t79_36 : Value) → f 17 = (.bool fits17_42 : Value) → F6_j6 series0_1 samples1_2 K all9_16 last10_17 written11_18 i12_19 next20 w_20 t79_36 fits17_42 w_43 → WK K44 128 f w_43 := by
                intro f fits17_42 w_43 e0 e1 e2 e8 e9 e10 e11 e12 e13 e16 e17 h
                refine y_atf (upd_id (upd_id (upd_id (upd_id (upd_id (upd_id (upd_id (upd_id (upd_id (upd_id (upd_id rfl e0) e1) e2) e8) e9) e10) e11) e12) e13) e16) e17) ?_
                clear e0 e1 e2 e8 e9 e10 e11 e12 e13 e16 e17
                unfold F6_j6 at h
                refine hK44 _ _ ?_
                refine y_seq fun K52 hK52 => ?_
                refine y_seq fun K53 hK53 => ?_
                refine y_region ?_
                refine y_k (.int .i64 t79_36 : Value) w_43 rfl rfl rfl (by kernel_rfl) ?_
                refine y_k (.bool ((t79_36 == 0)) : Value) w_43 rfl rfl rfl (by kernel_rfl) ?_
                refine y_k (.bool fits17_42 : Value) w_43 rfl rfl rfl (by kernel_rfl) ?_
                obtain ⟨t103_44, hx54, h⟩ := h
                refine y_v (s := do eqGuard .neq 4 (Operand.tmp 101) (Operand.tmp 102) (.bool ((t79_36 == 0)) : Value) (.bool fits17_42 : Value); binOp .neq 4 (.bool ((t79_36 == 0)) : Value) (.bool fits17_42 : Value)) rfl rfl rfl (by kernel_rfl) (hx54) ?_
                refine y_nil ?_
                refine y_then (hK53 _ _ ?_)
                refine y_cond (t103_44) rfl rfl (fun hb74 => ?_) (fun hb74 => ?_)
                · replace h := h.1 (hb74)
                  refine y_seq fun K55 hK55 => ?_
                  refine y_region ?_
                  refine y_k (.bool false : Value) w_43 rfl rfl rfl (by kernel_rfl) ?_
                  refine y_nil ?_
                  refine y_then (hK55 _ _ ?_)
                  refine y_ret ?_
                  repeat (first | refine e_then_r ?_ | refine e_block_r ?_)
                  exact (hQ0 _ _ _ (res1 (v := (.bool false : Value)) rfl rfl rfl) ⟨_, rfl, h⟩).1
                · replace h := h.2 (hb74)
                  refine y_skip ?_
                  refine y_then (hK52 _ _ ?_)
                  refine y_seq fun K56 hK56 => ?_
                  refine y_seq fun K57 hK57 => ?_
                  refine y_region ?_
                  refine y_k (.bool fits17_42 : Value) w_43 rfl rfl rfl (by kernel_rfl) ?_
                  refine y_k (.bool (!(fits17_42)) : Value) w_43 rfl rfl rfl (by kernel_rfl) ?_
                  refine y_nil ?_
                  refine y_then (hK57 _ _ ?_)
                  refine y_cond (!(fits17_42)) rfl rfl (fun hb73 => ?_) (fun hb73 => ?_)
                  · replace h := h.1 ((not_true_of hb73))
                    refine y_exit ?_
                    repeat (first | refine e_then_x ?_ | refine e_block_y rfl ?_)
                    refine e_block_x ?_
                    exact y_then (hjK24 _ all9_16 last10_17 written11_18 w_43 rfl rfl rfl rfl rfl rfl rfl rfl h)
                  · replace h := h.2 ((not_false_of hb73))
                    refine y_skip ?_
                    refine y_then (hK56 _ _ ?_)
                    refine y_seq fun K58 hK58 => ?_
                    have hjK58 : ∀ (f : Fr) (last10_51 : Int) (written11_52 : Int) (w_53 : World), f 0 = (.int .i64 series0_1 : Value) → f 1 = (.int .i64 samples1_2 : Value) → f 2 = (.slice takes2_3.a takes2_3.n takes2_3.c : Value) → f 8 = (.pointer t19_6 : Value) → f 9 = (.int .i64 all9_16 : Value) → f 10 = (.int .i64 last10_51 : Value) → f 11 = (.int .i64 written11_52 : Value) → f 12 = (.int .i64 i12_19 : Value) → f 13 = (.pointer (some (⟨w_20.heap.size, 0, none⟩ : Addr)) : Value) → F6_j8 series0_1 samples1_2 K all9_16 i12_19 next20 w_20 last10_51 written11_52 w_53 → WK K58 128 f w_53 := by
                      intro f last10_51 written11_52 w_53 e0 e1 e2 e8 e9 e10 e11 e12 e13 h
                      refine y_atf (upd_id (upd_id (upd_id (upd_id (upd_id (upd_id (upd_id (upd_id (upd_id rfl e0) e1) e2) e8) e9) e10) e11) e12) e13) ?_
                      clear e0 e1 e2 e8 e9 e10 e11 e12 e13
                      unfold F6_j8 at h
                      refine hK58 _ _ ?_
                      refine y_seq fun K63 hK63 => ?_
                      refine y_region ?_
                      refine y_k (.int .i64 written11_52 : Value) w_53 rfl rfl rfl (by kernel_rfl) ?_
                      refine y_k (.pointer (some ((⟨w_20.heap.size, 0, none⟩ : Addr).add 2)) : Value) w_53 rfl rfl rfl (by kernel_rfl) ?_
                      obtain ⟨t114_54, hx64, h⟩ := h
                      refine y_v (s := Instr.loadAt 3 (.pointer (some ((⟨w_20.heap.size, 0, none⟩ : Addr).add 2)))) rfl rfl rfl (by kernel_rfl) (rn_load (by kernel_rfl) hx64) ?_
                      refine y_k (.int .i64 (IntKind.i64.wrap (written11_52 + t114_54)) : Value) w_53 rfl rfl rfl (by kernel_rfl) ?_
                      refine y_k (.int .i64 (IntKind.i64.wrap (written11_52 + t114_54)) : Value) w_53 rfl rfl rfl (by kernel_rfl) ?_
                      refine y_nil ?_
                      refine y_then (hK63 _ _ ?_)
                      refine y_seq fun K65 hK65 => ?_
                      refine y_region ?_
                      refine y_k (.int .i64 all9_16 : Value) w_53 rfl rfl rfl (by kernel_rfl) ?_
                      refine y_k (.pointer (some ((⟨w_20.heap.size, 0, none⟩ : Addr).add 1)) : Value) w_53 rfl rfl rfl (by kernel_rfl) ?_
                      obtain ⟨t118_55, hx66, h⟩ := h
                      refine y_v (s := Instr.loadAt 3 (.pointer (some ((⟨w_20.heap.size, 0, none⟩ : Addr).add 1)))) rfl rfl rfl (by kernel_rfl) (rn_load (by kernel_rfl) hx66) ?_
                      refine y_k (.int .i64 (IntKind.i64.wrap (all9_16 + t118_55)) : Value) w_53 rfl rfl rfl (by kernel_rfl) ?_
                      refine y_k (.int .i64 (IntKind.i64.wrap (all9_16 + t118_55)) : Value) w_53 rfl rfl rfl (by kernel_rfl) ?_
                      refine y_nil ?_
                      refine y_then (hK65 _ _ ?_)
                      refine y_seq fun K67 hK67 => ?_
                      refine y_region ?_
                      refine y_k (.int .i64 (IntKind.i64.wrap (written11_52 + t114_54)) : Value) w_53 rfl rfl rfl (by kernel_rfl) ?_
                      refine y_k (.int .i64 samples1_2 : Value) w_53 rfl rfl rfl (by kernel_rfl) ?_
                      refine y_k (.bool (decide ((IntKind.i64.wrap (written11_52 + t114_54)) > samples1_2)) : Value) w_53 rfl rfl rfl (by kernel_rfl) ?_
                      refine y_k (.bool (decide ((IntKind.i64.wrap (written11_52 + t114_54)) > samples1_2)) : Value) w_53 rfl rfl rfl (by kernel_rfl) ?_
                      refine y_fork (decide ((IntKind.i64.wrap (written11_52 + t114_54)) > samples1_2)) (fun hb68 => ?_) (fun hb68 => ?_)
                      · replace h := h.1 (of_decide_eq_true hb68)
                        refine y_frame (upd_id (i := 123) (v := .bool true) rfl (congrArg Value.bool hb68)) ?_
                        refine y_gno rfl rfl rfl rfl ?_
                        refine y_gno rfl rfl rfl rfl ?_
                        refine y_gno rfl rfl rfl rfl ?_
                        refine y_k (.bool true : Value) w_53 rfl rfl rfl (by kernel_rfl) ?_
                        refine y_nil ?_
                        refine y_then (hK67 _ _ ?_)
                        refine y_cond_t rfl rfl ?_
                        refine y_seq fun K69 hK69 => ?_
                        refine y_region ?_
                        refine y_k (.bool false : Value) w_53 rfl rfl rfl (by kernel_rfl) ?_
                        refine y_nil ?_
                        refine y_then (hK69 _ _ ?_)
                        refine y_ret ?_
                        repeat (first | refine e_then_r ?_ | refine e_block_r ?_)
                        exact (hQ0 _ _ _ (res1 (v := (.bool false : Value)) rfl rfl rfl) ⟨_, rfl, h⟩).1
                      · replace h := h.2 (of_decide_eq_false hb68)
                        refine y_frame (upd_id (i := 123) (v := .bool false) rfl (congrArg Value.bool hb68)) ?_
                        refine y_gyes rfl rfl rfl ?_
                        refine y_k (.int .i64 (IntKind.i64.wrap (all9_16 + t118_55)) : Value) w_53 rfl rfl rfl (by kernel_rfl) ?_
                        refine y_gyes rfl rfl rfl ?_
                        refine y_k (.int .i64 series0_1 : Value) w_53 rfl rfl rfl (by kernel_rfl) ?_
                        refine y_gyes rfl rfl rfl ?_
                        refine y_k (.bool (decide ((IntKind.i64.wrap (all9_16 + t118_55)) > series0_1)) : Value) w_53 rfl rfl rfl (by kernel_rfl) ?_
                        refine y_k (.bool (decide ((IntKind.i64.wrap (all9_16 + t118_55)) > series0_1)) : Value) w_53 rfl rfl rfl (by kernel_rfl) ?_
                        refine y_nil ?_
                        refine y_then (hK67 _ _ ?_)
                        refine y_cond (decide ((IntKind.i64.wrap (all9_16 + t118_55)) > series0_1)) rfl rfl (fun hb71 => ?_) (fun hb71 => ?_)
                        · replace h := h.1 (of_decide_eq_true hb71)
                          refine y_seq fun K70 hK70 => ?_
                          refine y_region ?_
                          refine y_k (.bool false : Value) w_53 rfl rfl rfl (by kernel_rfl) ?_
                          refine y_nil ?_
                          refine y_then (hK70 _ _ ?_)
                          refine y_ret ?_
                          repeat (first | refine e_then_r ?_ | refine e_block_r ?_)
                          exact (hQ0 _ _ _ (res1 (v := (.bool false : Value)) rfl rfl rfl) ⟨_, rfl, h⟩).1
                        · replace h := h.2 (of_decide_eq_false hb71)
                          refine y_skip ?_
                          refine e_block_n ?_
                          exact y_then (hjK24 _ (IntKind.i64.wrap (all9_16 + t118_55)) last10_51 (IntKind.i64.wrap (written11_52 + t114_54)) w_53 rfl rfl rfl rfl rfl rfl rfl rfl h)
                    refine y_seq fun K59 hK59 => ?_
                    refine y_region ?_
                    refine y_k (.pointer (some (⟨w_20.heap.size, 0, none⟩ : Addr)) : Value) w_43 rfl rfl rfl (by kernel_rfl) ?_
                    obtain ⟨t107_49, hx60, h⟩ := h
                    refine y_v (s := Instr.loadAt 2 (.pointer (some (⟨w_20.heap.size, 0, none⟩ : Addr)))) rfl rfl rfl (by kernel_rfl) (rn_load (by kernel_rfl) hx60) ?_
                    refine y_k (.int .i64 last10_17 : Value) w_43 rfl rfl rfl (by kernel_rfl) ?_
                    refine y_k (.bool (decide (t107_49 > last10_17)) : Value) w_43 rfl rfl rfl (by kernel_rfl) ?_
                    refine y_nil ?_
                    refine y_then (hK59 _ _ ?_)
                    refine y_cond (decide (t107_49 > last10_17)) rfl rfl (fun hb72 => ?_) (fun hb72 => ?_)
                    · replace h := h.1 (of_decide_eq_true hb72)
                      refine y_seq fun K61 hK61 => ?_
                      refine y_region ?_
                      refine y_k (.pointer (some (⟨w_20.heap.size, 0, none⟩ : Addr)) : Value) w_43 rfl rfl rfl (by kernel_rfl) ?_
                      obtain ⟨t111_50, hx62, h⟩ := h
                      refine y_v (s := Instr.loadAt 2 (.pointer (some (⟨w_20.heap.size, 0, none⟩ : Addr)))) rfl rfl rfl (by kernel_rfl) (rn_load (by kernel_rfl) hx62) ?_
                      refine y_k (.int .i64 t111_50 : Value) w_43 rfl rfl rfl (by kernel_rfl) ?_
                      refine y_nil ?_
                      refine y_then (hK61 _ _ ?_)
                      refine y_region ?_
                      refine y_k (.int .i64 0 : Value) w_43 rfl rfl rfl (by kernel_rfl) ?_
                      refine y_nil ?_
                      exact y_then (hjK58 _ t111_50 0 w_43 rfl rfl rfl rfl rfl rfl rfl rfl rfl h)
                    · replace h := h.2 (of_decide_eq_false hb72)
                      refine y_skip ?_
                      exact y_then (hjK58 _ last10_17 written11_18 w_43 rfl rfl rfl rfl rfl rfl rfl rfl rfl h)
              refine y_region ?_
              refine y_k (.pointer (some ((⟨w_20.heap.size, 0, none⟩ : Addr).add 1)) : Value) w_37 rfl rfl rfl (by kernel_rfl) ?_
              obtain ⟨t81_38, hx45, h⟩ := h
              refine y_v (s := Instr.loadAt 3 (.pointer (some ((⟨w_20.heap.size, 0, none⟩ : Addr).add 1)))) rfl rfl rfl (by kernel_rfl) (rn_load (by kernel_rfl) hx45) ?_
              refine y_k (.bool (decide (t81_38 ≥ 0)) : Value) w_37 rfl rfl rfl (by kernel_rfl) ?_
              refine y_k (.bool (decide (t81_38 ≥ 0)) : Value) w_37 rfl rfl rfl (by kernel_rfl) ?_
              refine y_fork (decide (t81_38 ≥ 0)) (fun hb46 => ?_) (fun hb46 => ?_)
              · replace h := h.1 (of_decide_eq_true hb46)
                refine y_frame (upd_id (i := 83) (v := .bool true) rfl (congrArg Value.bool hb46)) ?_
                refine y_gyes rfl rfl rfl ?_
                refine y_k (.pointer (some ((⟨w_20.heap.size, 0, none⟩ : Addr).add 2)) : Value) w_37 rfl rfl rfl (by kernel_rfl) ?_
                refine y_gyes rfl rfl rfl ?_
                obtain ⟨t85_39, hx47, h⟩ := h
                refine y_v (s := Instr.loadAt 3 (.pointer (some ((⟨w_20.heap.size, 0, none⟩ : Addr).add 2)))) rfl rfl rfl (by kernel_rfl) (rn_load (by kernel_rfl) hx47) ?_
                refine y_gyes rfl rfl rfl ?_
                refine y_k (.bool (decide (t85_39 ≥ 0)) : Value) w_37 rfl rfl rfl (by kernel_rfl) ?_
                refine y_k (.bool (decide (t85_39 ≥ 0)) : Value) w_37 rfl rfl rfl (by kernel_rfl) ?_
                refine y_k (.bool (decide (t85_39 ≥ 0)) : Value) w_37 rfl rfl rfl (by kernel_rfl) ?_
                refine y_fork (decide (t85_39 ≥ 0)) (fun hb48 => ?_) (fun hb48 => ?_)
                · replace h := h.1 (of_decide_eq_true hb48)
                  refine y_frame (upd_id (i := 88) (v := .bool true) rfl (congrArg Value.bool hb48)) ?_
                  refine y_gyes rfl rfl rfl ?_
                  refine y_k (.pointer (some ((⟨w_20.heap.size, 0, none⟩ : Addr).add 1)) : Value) w_37 rfl rfl rfl (by kernel_rfl) ?_
                  refine y_gyes rfl rfl rfl ?_
                  obtain ⟨t90_40, hx49, h⟩ := h
                  refine y_v (s := Instr.loadAt 3 (.pointer (some ((⟨w_20.heap.size, 0, none⟩ : Addr).add 1)))) rfl rfl rfl (by kernel_rfl) (rn_load (by kernel_rfl) hx49) ?_
                  refine y_gyes rfl rfl rfl ?_
                  refine y_k (.int .i64 t52_28 : Value) w_37 rfl rfl rfl (by kernel_rfl) ?_
                  refine y_gyes rfl rfl rfl ?_
                  refine y_k (.bool (decide (t90_40 ≤ t52_28)) : Value) w_37 rfl rfl rfl (by kernel_rfl) ?_
                  refine y_k (.bool (decide (t90_40 ≤ t52_28)) : Value) w_37 rfl rfl rfl (by kernel_rfl) ?_
                  refine y_k (.bool (decide (t90_40 ≤ t52_28)) : Value) w_37 rfl rfl rfl (by kernel_rfl) ?_
                  refine y_fork (decide (t90_40 ≤ t52_28)) (fun hb50 => ?_) (fun hb50 => ?_)
                  · replace h := h.1 (of_decide_eq_true hb50)
                    refine y_frame (upd_id (i := 94) (v := .bool true) rfl (congrArg Value.bool hb50)) ?_
                    refine y_gyes rfl rfl rfl ?_
                    refine y_k (.pointer (some ((⟨w_20.heap.size, 0, none⟩ : Addr).add 2)) : Value) w_37 rfl rfl rfl (by kernel_rfl) ?_
                    refine y_gyes rfl rfl rfl ?_
                    obtain ⟨t96_41, hx51, h⟩ := h
                    refine y_v (s := Instr.loadAt 3 (.pointer (some ((⟨w_20.heap.size, 0, none⟩ : Addr).add 2)))) rfl rfl rfl (by kernel_rfl) (rn_load (by kernel_rfl) hx51) ?_
                    refine y_gyes rfl rfl rfl ?_
                    refine y_k (.int .i64 t52_29 : Value) w_37 rfl rfl rfl (by kernel_rfl) ?_
                    refine y_gyes rfl rfl rfl ?_
                    refine y_k (.bool (decide (t96_41 ≤ t52_29)) : Value) w_37 rfl rfl rfl (by kernel_rfl) ?_
                    refine y_k (.bool (decide (t96_41 ≤ t52_29)) : Value) w_37 rfl rfl rfl (by kernel_rfl) ?_
                    refine y_k (.bool (decide (t96_41 ≤ t52_29)) : Value) w_37 rfl rfl rfl (by kernel_rfl) ?_
                    refine y_nil ?_
                    exact y_then (hjK44 _ (decide (t96_41 ≤ t52_29)) w_37 rfl rfl rfl rfl rfl rfl rfl rfl rfl rfl rfl h)
                  · replace h := h.2 (of_decide_eq_false hb50)
                    refine y_frame (upd_id (i := 94) (v := .bool false) rfl (congrArg Value.bool hb50)) ?_
                    refine y_gno rfl rfl rfl rfl ?_
                    refine y_gno rfl rfl rfl rfl ?_
                    refine y_gno rfl rfl rfl rfl ?_
                    refine y_gno rfl rfl rfl rfl ?_
                    refine y_k (.bool false : Value) w_37 rfl rfl rfl (by kernel_rfl) ?_
                    refine y_k (.bool false : Value) w_37 rfl rfl rfl (by kernel_rfl) ?_
                    refine y_nil ?_
                    exact y_then (hjK44 _ false w_37 rfl rfl rfl rfl rfl rfl rfl rfl rfl rfl rfl h)
                · replace h := h.2 (of_decide_eq_false hb48)
                  refine y_frame (upd_id (i := 88) (v := .bool false) rfl (congrArg Value.bool hb48)) ?_
                  refine y_gno rfl rfl rfl rfl ?_
                  refine y_gno rfl rfl rfl rfl ?_
                  refine y_gno rfl rfl rfl rfl ?_
                  refine y_gno rfl rfl rfl rfl ?_
                  refine y_k (.bool false : Value) w_37 rfl rfl rfl (by kernel_rfl) ?_
                  refine y_k (.bool false : Value) w_37 rfl rfl rfl (by kernel_rfl) ?_
                  refine y_gno rfl rfl rfl rfl ?_
                  refine y_gno rfl rfl rfl rfl ?_
                  refine y_gno rfl rfl rfl rfl ?_
                  refine y_gno rfl rfl rfl rfl ?_
                  refine y_k (.bool false : Value) w_37 rfl rfl rfl (by kernel_rfl) ?_
                  refine y_k (.bool false : Value) w_37 rfl rfl rfl (by kernel_rfl) ?_
                  refine y_nil ?_
                  exact y_then (hjK44 _ false w_37 rfl rfl rfl rfl rfl rfl rfl rfl rfl rfl rfl h)
              · replace h := h.2 (of_decide_eq_false hb46)
                refine y_frame (upd_id (i := 83) (v := .bool false) rfl (congrArg Value.bool hb46)) ?_
                refine y_gno rfl rfl rfl rfl ?_
                refine y_gno rfl rfl rfl rfl ?_
                refine y_gno rfl rfl rfl rfl ?_
                refine y_k (.bool false : Value) w_37 rfl rfl rfl (by kernel_rfl) ?_
                refine y_k (.bool false : Value) w_37 rfl rfl rfl (by kernel_rfl) ?_
                refine y_gno rfl rfl rfl rfl ?_
                refine y_gno rfl rfl rfl rfl ?_
                refine y_gno rfl rfl rfl rfl ?_
                refine y_gno rfl rfl rfl rfl ?_
                refine y_k (.bool false : Value) w_37 rfl rfl rfl (by kernel_rfl) ?_
                refine y_k (.bool false : Value) w_37 rfl rfl rfl (by kernel_rfl) ?_
                refine y_gno rfl rfl rfl rfl ?_
                refine y_gno rfl rfl rfl rfl ?_
                refine y_gno rfl rfl rfl rfl ?_
                refine y_gno rfl rfl rfl rfl ?_
                refine y_k (.bool false : Value) w_37 rfl rfl rfl (by kernel_rfl) ?_
                refine y_k (.bool false : Value) w_37 rfl rfl rfl (by kernel_rfl) ?_
                refine y_nil ?_
                exact y_then (hjK44 _ false w_37 rfl rfl rfl rfl rfl rfl rfl rfl rfl rfl rfl h)
          refine y_seq fun K33 hK33 => ?_
          refine y_region ?_
          refine y_k (.pointer (some (⟨w_20.heap.size, 0, none⟩ : Addr)) : Value) w_30 rfl rfl rfl (by kernel_rfl) ?_
          obtain ⟨t56_31, hx34, h⟩ := h
          refine y_v (s := Instr.loadAt 2 (.pointer (some (⟨w_20.heap.size, 0, none⟩ : Addr)))) rfl rfl rfl (by kernel_rfl) (rn_load (by kernel_rfl) hx34) ?_
          refine y_k (.int .i64 last10_17 : Value) w_30 rfl rfl rfl (by kernel_rfl) ?_
          refine y_k (.bool (decide (t56_31 > last10_17)) : Value) w_30 rfl rfl rfl (by kernel_rfl) ?_
          refine y_nil ?_
          refine y_then (hK33 _ _ ?_)
          refine y_cond (decide (t56_31 > last10_17)) rfl rfl (fun hb80 => ?_) (fun hb80 => ?_)
          · replace h := h.1 (of_decide_eq_true hb80)
            refine y_seq fun K35 hK35 => ?_
            refine y_region ?_
            refine y_k (.int .i64 t52_29 : Value) w_30 rfl rfl rfl (by kernel_rfl) ?_
            refine y_k (.int .i64 samples1_2 : Value) w_30 rfl rfl rfl (by kernel_rfl) ?_
            refine y_k (.bool ((t52_29 != samples1_2)) : Value) w_30 rfl rfl rfl (by kernel_rfl) ?_
            refine y_nil ?_
            refine y_then (hK35 _ _ ?_)
            refine y_cond ((t52_29 != samples1_2)) rfl rfl (fun hb76 => ?_) (fun hb76 => ?_)
            · replace h := h.1 (bne_iff_ne.mp hb76)
              refine y_seq fun K36 hK36 => ?_
              refine y_region ?_
              refine y_k (.bool false : Value) w_30 rfl rfl rfl (by kernel_rfl) ?_
              refine y_nil ?_
              refine y_then (hK36 _ _ ?_)
              refine y_ret ?_
              repeat (first | refine e_then_r ?_ | refine e_block_r ?_)
              exact (hQ0 _ _ _ (res1 (v := (.bool false : Value)) rfl rfl rfl) ⟨_, rfl, h⟩).1
            · replace h := h.2 (bne_eq_false_iff_eq.mp hb76)
              refine y_skip ?_
              exact y_then (hjK32 _ w_30 rfl rfl rfl rfl rfl rfl rfl rfl rfl rfl rfl h)
          · replace h := h.2 (of_decide_eq_false hb80)
            refine y_seq fun K77 hK77 => ?_
            refine y_region ?_
            refine y_k (.int .i64 t52_29 : Value) w_30 rfl rfl rfl (by kernel_rfl) ?_
            refine y_k (.int .i64 samples1_2 : Value) w_30 rfl rfl rfl (by kernel_rfl) ?_
            refine y_k (.int .i64 written11_18 : Value) w_30 rfl rfl rfl (by kernel_rfl) ?_
            refine y_k (.int .i64 (IntKind.i64.wrap (samples1_2 - written11_18)) : Value) w_30 rfl rfl rfl (by kernel_rfl) ?_
            refine y_k (.bool ((t52_29 != ((IntKind.i64.wrap (samples1_2 - written11_18))))) : Value) w_30 rfl rfl rfl (by kernel_rfl) ?_
            refine y_nil ?_
            refine y_then (hK77 _ _ ?_)
            refine y_cond ((t52_29 != ((IntKind.i64.wrap (samples1_2 - written11_18))))) rfl rfl (fun hb79 => ?_) (fun hb79 => ?_)
            · replace h := h.1 (bne_iff_ne.mp hb79)
              refine y_seq fun K78 hK78 => ?_
              refine y_region ?_
              refine y_k (.bool false : Value) w_30 rfl rfl rfl (by kernel_rfl) ?_
              refine y_nil ?_
              refine y_then (hK78 _ _ ?_)
              refine y_ret ?_
              repeat (first | refine e_then_r ?_ | refine e_block_r ?_)
              exact (hQ0 _ _ _ (res1 (v := (.bool false : Value)) rfl rfl rfl) ⟨_, rfl, h⟩).1
            · replace h := h.2 (bne_eq_false_iff_eq.mp hb79)
              refine y_skip ?_
              exact y_then (hjK32 _ w_30 rfl rfl rfl rfl rfl rfl rfl rfl rfl rfl rfl h)
        · replace h := h.2 (of_decide_eq_false hb82)
          refine y_exit ?_
          repeat (first | refine e_then_x ?_ | refine e_block_y rfl ?_)
          refine e_block_x ?_
          refine y_then (hK17 _ _ ?_)
          refine y_seq fun K81 hK81 => ?_
          refine y_region ?_
          refine y_k (.bool true : Value) w_20 rfl rfl rfl (by kernel_rfl) ?_
          refine y_nil ?_
          refine y_then (hK81 _ _ ?_)
          refine y_ret ?_
          repeat (first | refine e_then_r ?_ | refine e_block_r ?_)
          exact (hQ0 _ _ _ (res1 (v := (.bool true : Value)) rfl rfl rfl) ⟨_, rfl, h⟩).1

end Go.Proofs.Ythhcaaellhdkiaa
