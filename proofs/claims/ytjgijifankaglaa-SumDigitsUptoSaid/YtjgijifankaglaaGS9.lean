/- Printed by gen.py (own program, wip/): for each Go function a predicate transformer and its soundness. -/
import Derived.Test.YtjgijifankaglaaProg
import Derived.Test.YtjgijifankaglaaST
namespace Go.Proofs.Ytjgijifankaglaa
open Go Go.RowKit Go.Proofs.Ytjgijifankaglaa.SX
set_option linter.unusedVariables false

def F9_j3 (K : Bool → World → Prop) (t4_46 : Bool) (w_47 : World) : Prop :=
  K t4_46 w_47
def F9_l2 (b0_1 : Sl) (K : Bool → World → Prop) (t34_8 : ByteArray) (t45_15 : Sl) (t50_18 : Sl) (next51 : (Sl × Int) → World → Prop) : (Sl × Int) → World → Prop := fun (x9_33, i16_34) w_35 =>
  ((i16_34 < 64 →
  ∀ (w_36 : World), w_36 = w_35.alloc (.cells #[.int .u8 201] 5) →
  ∃ (t112_37 : Sl), ∃ (w_38 : World), (Builtin.append_ #[33, 33] 33 #[.slice x9_33.a x9_33.n x9_33.c, .slice (some ⟨w_35.heap.size, 0, none⟩) 1 1]).run Try.prog w_36 = .ok (.slice t112_37.a t112_37.n t112_37.c : Value) w_38 ∧
  next51 (t112_37, IntKind.i64.wrap (i16_34 + 1)) w_38) ∧
  (¬ (i16_34 < 64) →
  Calls Try.prog 52 #[.string t34_8] w_35 fun e w_41 => ∃ (t115_39 : Sl), ∃ (t115_40 : Bool), e = .returned (.tuple #[.slice t115_39.a t115_39.n t115_39.c, .bool t115_40] : Value) ∧
  ∃ (t119_42 : ByteArray), (convert 33 9 (.slice t45_15.a t45_15.n t45_15.c : Value)).run Try.prog w_41 = .ok (.string t119_42 : Value) w_41 ∧
  ∃ (t121_43 : ByteArray), (convert 33 9 (.slice t50_18.a t50_18.n t50_18.c : Value)).run Try.prog w_41 = .ok (.string t121_43 : Value) w_41 ∧
  ((t119_42.toList = t121_43.toList →
  ((t115_40 = true →
  ∃ (t128_44 : ByteArray), (convert 33 9 (.slice t115_39.a t115_39.n t115_39.c : Value)).run Try.prog w_41 = .ok (.string t128_44 : Value) w_41 ∧
  ∃ (t130_45 : ByteArray), (convert 33 9 (.slice b0_1.a b0_1.n b0_1.c : Value)).run Try.prog w_41 = .ok (.string t130_45 : Value) w_41 ∧
  F9_j3 K ((t128_44.toList == t130_45.toList)) w_41) ∧
  (t115_40 = false →
  F9_j3 K false w_41))) ∧
  (¬ t119_42.toList = t121_43.toList →
  F9_j3 K false w_41))))
def F9_l1 (b0_1 : Sl) (K : Bool → World → Prop) (t34_8 : ByteArray) (t40_12 : Sl) (t45_15 : Sl) (t50_18 : Sl) (next40 : (Int) → World → Prop) : (Int) → World → Prop := fun (i15_29) w_30 =>
  ((i15_29 < ((t40_12.n : Int)) →
  (0 : Int) ≤ i15_29 ∧ i15_29 < (t40_12.n : Int) ∧ ∃ (a_31 : Addr), t40_12.a = some a_31 ∧
  HasCell w_30 (a_31.add (Int.toNat i15_29)) ∧ ∀ (w_32 : World), w_32 = w_30.setCell (a_31.add (Int.toNat i15_29)) (.int .u8 201 : Value) →
  next40 (IntKind.i64.wrap (i15_29 + 1)) w_32) ∧
  (¬ (i15_29 < ((t40_12.n : Int))) →
  kLoop (F9_l2 b0_1 K t34_8 t45_15 t50_18) (t40_12, 0) w_30))
def F9_j6 (K : Bool → World → Prop) (t4_65 : Bool) (w_66 : World) : Prop :=
  K t4_65 w_66
def F9_l5 (b0_1 : Sl) (K : Bool → World → Prop) (t34_8 : ByteArray) (t45_15 : Sl) (t50_18 : Sl) (next83 : (Sl × Int) → World → Prop) : (Sl × Int) → World → Prop := fun (x9_52, i16_53) w_54 =>
  ((i16_53 < 64 →
  ∀ (w_55 : World), w_55 = w_54.alloc (.cells #[.int .u8 201] 5) →
  ∃ (t112_56 : Sl), ∃ (w_57 : World), (Builtin.append_ #[33, 33] 33 #[.slice x9_52.a x9_52.n x9_52.c, .slice (some ⟨w_54.heap.size, 0, none⟩) 1 1]).run Try.prog w_55 = .ok (.slice t112_56.a t112_56.n t112_56.c : Value) w_57 ∧
  next83 (t112_56, IntKind.i64.wrap (i16_53 + 1)) w_57) ∧
  (¬ (i16_53 < 64) →
  Calls Try.prog 52 #[.string t34_8] w_54 fun e w_60 => ∃ (t115_58 : Sl), ∃ (t115_59 : Bool), e = .returned (.tuple #[.slice t115_58.a t115_58.n t115_58.c, .bool t115_59] : Value) ∧
  ∃ (t119_61 : ByteArray), (convert 33 9 (.slice t45_15.a t45_15.n t45_15.c : Value)).run Try.prog w_60 = .ok (.string t119_61 : Value) w_60 ∧
  ∃ (t121_62 : ByteArray), (convert 33 9 (.slice t50_18.a t50_18.n t50_18.c : Value)).run Try.prog w_60 = .ok (.string t121_62 : Value) w_60 ∧
  ((t119_61.toList = t121_62.toList →
  ((t115_59 = true →
  ∃ (t128_63 : ByteArray), (convert 33 9 (.slice t115_58.a t115_58.n t115_58.c : Value)).run Try.prog w_60 = .ok (.string t128_63 : Value) w_60 ∧
  ∃ (t130_64 : ByteArray), (convert 33 9 (.slice b0_1.a b0_1.n b0_1.c : Value)).run Try.prog w_60 = .ok (.string t130_64 : Value) w_60 ∧
  F9_j6 K ((t128_63.toList == t130_64.toList)) w_60) ∧
  (t115_59 = false →
  F9_j6 K false w_60))) ∧
  (¬ t119_61.toList = t121_62.toList →
  F9_j6 K false w_60))))
def F9_l4 (b0_1 : Sl) (K : Bool → World → Prop) (t34_8 : ByteArray) (t40_12 : Sl) (t45_15 : Sl) (t50_18 : Sl) (next72 : (Int) → World → Prop) : (Int) → World → Prop := fun (i15_48) w_49 =>
  ((i15_48 < ((t40_12.n : Int)) →
  (0 : Int) ≤ i15_48 ∧ i15_48 < (t40_12.n : Int) ∧ ∃ (a_50 : Addr), t40_12.a = some a_50 ∧
  HasCell w_49 (a_50.add (Int.toNat i15_48)) ∧ ∀ (w_51 : World), w_51 = w_49.setCell (a_50.add (Int.toNat i15_48)) (.int .u8 201 : Value) →
  next72 (IntKind.i64.wrap (i15_48 + 1)) w_51) ∧
  (¬ (i15_48 < ((t40_12.n : Int))) →
  kLoop (F9_l5 b0_1 K t34_8 t45_15 t50_18) (t40_12, 0) w_49))
/-- turnkey/turnkeylaw02.SumDigits -/
def F9 (b0_1 : Sl) (s1_2 : ByteArray) (K : Bool → World → Prop) (w : World) : Prop :=
  Calls Try.prog 38 #[] w fun e w_4 => ∃ (t19_3 : Bool), e = .returned (.bool t19_3 : Value) ∧
  ((t19_3 = false →
  K t19_3 w_4) ∧
  (t19_3 = true →
  ((((b0_1.n : Int)) > 1073741823 →
  K t19_3 w_4) ∧
  (¬ (((b0_1.n : Int)) > 1073741823) →
  Calls Try.prog 39 #[.slice b0_1.a b0_1.n b0_1.c] w_4 fun e w_6 => ∃ (t29_5 : Sl), e = .returned (.slice t29_5.a t29_5.n t29_5.c : Value) ∧
  ∃ (t33_7 : Sl), (Instr.sliceAt 33 (.slice t29_5.a t29_5.n t29_5.c : Value) none (some (.int .i64 ((b0_1.n : Int)) : Value)) none).run Try.prog w_6 = .ok (.slice t33_7.a t33_7.n t33_7.c : Value) w_6 ∧
  Calls Try.prog 51 #[.slice t33_7.a t33_7.n t33_7.c] w_6 fun e w_9 => ∃ (t34_8 : ByteArray), e = .returned (.string t34_8 : Value) ∧
  Calls Try.prog 42 #[.slice t29_5.a t29_5.n t29_5.c, .slice b0_1.a b0_1.n b0_1.c] w_9 fun e w_11 => ∃ (t37_10 : Bool), e = .returned (.bool t37_10 : Value) ∧
  Calls Try.prog 52 #[.string s1_2] w_11 fun e w_14 => ∃ (t40_12 : Sl), ∃ (t40_13 : Bool), e = .returned (.tuple #[.slice t40_12.a t40_12.n t40_12.c, .bool t40_13] : Value) ∧
  Calls Try.prog 52 #[.string s1_2] w_14 fun e w_17 => ∃ (t45_15 : Sl), ∃ (t45_16 : Bool), e = .returned (.tuple #[.slice t45_15.a t45_15.n t45_15.c, .bool t45_16] : Value) ∧
  Calls Try.prog 53 #[.string s1_2] w_17 fun e w_20 => ∃ (t50_18 : Sl), ∃ (t50_19 : Bool), e = .returned (.tuple #[.slice t50_18.a t50_18.n t50_18.c, .bool t50_19] : Value) ∧
  ((t37_10 = false →
  K false w_20) ∧
  (t37_10 = true →
  Calls Try.prog 54 #[.slice b0_1.a b0_1.n b0_1.c] w_20 fun e w_22 => ∃ (t58_21 : ByteArray), e = .returned (.string t58_21 : Value) ∧
  ((¬ t34_8.toList = t58_21.toList →
  K false w_22) ∧
  (t34_8.toList = t58_21.toList →
  ∃ (t64_23 : Bool), (do eqGuard .neq 4 (Operand.tmp 62) (Operand.tmp 63) (.bool t40_13 : Value) (.bool t50_19 : Value); binOp .neq 4 (.bool t40_13 : Value) (.bool t50_19 : Value)).run Try.prog w_22 = .ok (.bool t64_23 : Value) w_22 ∧
  ((t64_23 = true →
  K false w_22) ∧
  (t64_23 = false →
  ∃ (t69_24 : Bool), (do eqGuard .neq 4 (Operand.tmp 67) (Operand.tmp 68) (.bool t45_16 : Value) (.bool t50_19 : Value); binOp .neq 4 (.bool t45_16 : Value) (.bool t50_19 : Value)).run Try.prog w_22 = .ok (.bool t69_24 : Value) w_22 ∧
  ((t69_24 = true →
  K false w_22) ∧
  (t69_24 = false →
  ∃ (t73_25 : ByteArray), (convert 33 9 (.slice t40_12.a t40_12.n t40_12.c : Value)).run Try.prog w_22 = .ok (.string t73_25 : Value) w_22 ∧
  ∃ (t75_26 : ByteArray), (convert 33 9 (.slice t50_18.a t50_18.n t50_18.c : Value)).run Try.prog w_22 = .ok (.string t75_26 : Value) w_22 ∧
  ((¬ t73_25.toList = t75_26.toList →
  K false w_22) ∧
  (t73_25.toList = t75_26.toList →
  ∃ (t80_27 : ByteArray), (convert 33 9 (.slice t45_15.a t45_15.n t45_15.c : Value)).run Try.prog w_22 = .ok (.string t80_27 : Value) w_22 ∧
  ∃ (t82_28 : ByteArray), (convert 33 9 (.slice t50_18.a t50_18.n t50_18.c : Value)).run Try.prog w_22 = .ok (.string t82_28 : Value) w_22 ∧
  ((¬ t80_27.toList = t82_28.toList →
  K false w_22) ∧
  (t80_27.toList = t82_28.toList →
  ((t50_19 = false →
  (((IntKind.i64.wrap (((t40_12.n : Int)) + ((t45_15.n : Int)))) > 0 →
  K false w_22) ∧
  (¬ ((IntKind.i64.wrap (((t40_12.n : Int)) + ((t45_15.n : Int)))) > 0) →
  kLoop (F9_l1 b0_1 K t34_8 t40_12 t45_15 t50_18) (0) w_22))) ∧
  (t50_19 = true →
  kLoop (F9_l4 b0_1 K t34_8 t40_12 t45_15 t50_18) (0) w_22))))))))))))))))))
set_option maxHeartbeats 4000000 in
set_option maxRecDepth 20000 in
theorem F9_sound (b0_1 : Sl) (s1_2 : ByteArray) (K : Bool → World → Prop) (w : World) (h : F9 b0_1 s1_2 K w) :
    Calls Try.prog 9 #[.slice b0_1.a b0_1.n b0_1.c, .string s1_2] w (fun e w1 => ∃ (r0 : Bool), e = .returned (.bool r0 : Value) ∧ K r0 w1) := by
  unfold F9 at h
  refine y_enter (n := 133) (args := [.slice b0_1.a b0_1.n b0_1.c, .string s1_2]) Try.func9 rfl rfl rfl fun Q0 hQ0 => ?_
  refine y_seq fun K1 hK1 => ?_
  refine y_region ?_
  refine y_k (.bool false : Value) w rfl rfl rfl (by kernel_rfl) ?_
  refine y_nil ?_
  refine y_then (hK1 _ _ ?_)
  refine y_seq fun K2 hK2 => ?_
  refine y_region ?_
  refine y_call rfl rfl rfl (by kernel_rfl) (h.mono ?_)
  rintro _ w_4 ⟨t19_3, rfl, h⟩
  refine ⟨_, rfl, ?_⟩
  refine y_k (.bool t19_3 : Value) w_4 rfl rfl rfl (by kernel_rfl) ?_
  refine y_nil ?_
  refine y_then (hK2 _ _ ?_)
  refine y_seq fun K3 hK3 => ?_
  refine y_seq fun K4 hK4 => ?_
  refine y_region ?_
  refine y_k (.bool t19_3 : Value) w_4 rfl rfl rfl (by kernel_rfl) ?_
  refine y_k (.bool (!(t19_3)) : Value) w_4 rfl rfl rfl (by kernel_rfl) ?_
  refine y_k (.bool (!(t19_3)) : Value) w_4 rfl rfl rfl (by kernel_rfl) ?_
  refine y_fork (!(t19_3)) (fun hb5 => ?_) (fun hb5 => ?_)
  · replace h := h.1 ((not_true_of hb5))
    refine y_frame (upd_id (i := 22) (v := .bool true) rfl (congrArg Value.bool hb5)) ?_
    refine y_gno rfl rfl rfl rfl ?_
    refine y_gno rfl rfl rfl rfl ?_
    refine y_gno rfl rfl rfl rfl ?_
    refine y_k (.bool true : Value) w_4 rfl rfl rfl (by kernel_rfl) ?_
    refine y_nil ?_
    refine y_then (hK4 _ _ ?_)
    refine y_cond_t rfl rfl ?_
    refine y_seq fun K6 hK6 => ?_
    refine y_region ?_
    refine y_k (.bool t19_3 : Value) w_4 rfl rfl rfl (by kernel_rfl) ?_
    refine y_k (.bool t19_3 : Value) w_4 rfl rfl rfl (by kernel_rfl) ?_
    refine y_nil ?_
    refine y_then (hK6 _ _ ?_)
    refine y_ret ?_
    repeat (first | refine e_then_r ?_ | refine e_block_r ?_)
    exact (hQ0 _ _ _ (res1 (v := (.bool t19_3 : Value)) rfl rfl rfl) ⟨_, rfl, h⟩).1
  · replace h := h.2 ((not_false_of hb5))
    refine y_frame (upd_id (i := 22) (v := .bool false) rfl (congrArg Value.bool hb5)) ?_
    refine y_gyes rfl rfl rfl ?_
    refine y_k (.slice b0_1.a b0_1.n b0_1.c : Value) w_4 rfl rfl rfl (by kernel_rfl) ?_
    refine y_gyes rfl rfl rfl ?_
    refine y_k (.int .i64 ((b0_1.n : Int)) : Value) w_4 rfl rfl rfl (by kernel_rfl) ?_
    refine y_gyes rfl rfl rfl ?_
    refine y_k (.bool (decide (((b0_1.n : Int)) > 1073741823)) : Value) w_4 rfl rfl rfl (by kernel_rfl) ?_
    refine y_k (.bool (decide (((b0_1.n : Int)) > 1073741823)) : Value) w_4 rfl rfl rfl (by kernel_rfl) ?_
    refine y_nil ?_
    refine y_then (hK4 _ _ ?_)
    refine y_cond (decide (((b0_1.n : Int)) > 1073741823)) rfl rfl (fun hb100 => ?_) (fun hb100 => ?_)
    · replace h := h.1 (of_decide_eq_true hb100)
      refine y_seq fun K7 hK7 => ?_
      refine y_region ?_
      refine y_k (.bool t19_3 : Value) w_4 rfl rfl rfl (by kernel_rfl) ?_
      refine y_k (.bool t19_3 : Value) w_4 rfl rfl rfl (by kernel_rfl) ?_
      refine y_nil ?_
      refine y_then (hK7 _ _ ?_)
      refine y_ret ?_
      repeat (first | refine e_then_r ?_ | refine e_block_r ?_)
      exact (hQ0 _ _ _ (res1 (v := (.bool t19_3 : Value)) rfl rfl rfl) ⟨_, rfl, h⟩).1
    · replace h := h.2 (of_decide_eq_false hb100)
      refine y_skip ?_
      refine y_then (hK3 _ _ ?_)
      refine y_seq fun K8 hK8 => ?_
      refine y_region ?_
      refine y_k (.slice b0_1.a b0_1.n b0_1.c : Value) w_4 rfl rfl rfl (by kernel_rfl) ?_
      refine y_call rfl rfl rfl (by kernel_rfl) (h.mono ?_)
      rintro _ w_6 ⟨t29_5, rfl, h⟩
      refine ⟨_, rfl, ?_⟩
      refine y_k (.slice t29_5.a t29_5.n t29_5.c : Value) w_6 rfl rfl rfl (by kernel_rfl) ?_
      refine y_nil ?_
      refine y_then (hK8 _ _ ?_)
      refine y_seq fun K9 hK9 => ?_
      refine y_region ?_
      refine y_k (.slice t29_5.a t29_5.n t29_5.c : Value) w_6 rfl rfl rfl (by kernel_rfl) ?_
      refine y_k (.slice b0_1.a b0_1.n b0_1.c : Value) w_6 rfl rfl rfl (by kernel_rfl) ?_
      refine y_k (.int .i64 ((b0_1.n : Int)) : Value) w_6 rfl rfl rfl (by kernel_rfl) ?_
      obtain ⟨t33_7, hx10, h⟩ := h
      refine y_v (s := Instr.sliceAt 33 (.slice t29_5.a t29_5.n t29_5.c : Value) none (some (.int .i64 ((b0_1.n : Int)) : Value)) none) rfl rfl rfl (by kernel_rfl) (hx10) ?_
      refine y_call rfl rfl rfl (by kernel_rfl) (h.mono ?_)
      rintro _ w_9 ⟨t34_8, rfl, h⟩
      refine ⟨_, rfl, ?_⟩
      refine y_k (.string t34_8 : Value) w_9 rfl rfl rfl (by kernel_rfl) ?_
      refine y_nil ?_
      refine y_then (hK9 _ _ ?_)
      refine y_seq fun K11 hK11 => ?_
      refine y_region ?_
      refine y_k (.slice t29_5.a t29_5.n t29_5.c : Value) w_9 rfl rfl rfl (by kernel_rfl) ?_
      refine y_k (.slice b0_1.a b0_1.n b0_1.c : Value) w_9 rfl rfl rfl (by kernel_rfl) ?_
      refine y_call rfl rfl rfl (by kernel_rfl) (h.mono ?_)
      rintro _ w_11 ⟨t37_10, rfl, h⟩
      refine ⟨_, rfl, ?_⟩
      refine y_k (.bool t37_10 : Value) w_11 rfl rfl rfl (by kernel_rfl) ?_
      refine y_nil ?_
      refine y_then (hK11 _ _ ?_)
      refine y_seq fun K12 hK12 => ?_
      refine y_region ?_
      refine y_k (.string s1_2 : Value) w_11 rfl rfl rfl (by kernel_rfl) ?_
      refine y_call rfl rfl rfl (by kernel_rfl) (h.mono ?_)
      rintro _ w_14 ⟨t40_12, t40_13, rfl, h⟩
      refine ⟨_, rfl, ?_⟩
      refine y_k (.tuple #[.slice t40_12.a t40_12.n t40_12.c, .bool t40_13] : Value) w_14 rfl rfl rfl (by kernel_rfl) ?_
      refine y_k (.slice t40_12.a t40_12.n t40_12.c : Value) w_14 rfl rfl rfl (by kernel_rfl) ?_
      refine y_k (.bool t40_13 : Value) w_14 rfl rfl rfl (by kernel_rfl) ?_
      refine y_k (.slice t40_12.a t40_12.n t40_12.c : Value) w_14 rfl rfl rfl (by kernel_rfl) ?_
      refine y_k (.bool t40_13 : Value) w_14 rfl rfl rfl (by kernel_rfl) ?_
      refine y_nil ?_
      refine y_then (hK12 _ _ ?_)
      refine y_seq fun K13 hK13 => ?_
      refine y_region ?_
      refine y_k (.string s1_2 : Value) w_14 rfl rfl rfl (by kernel_rfl) ?_
      refine y_call rfl rfl rfl (by kernel_rfl) (h.mono ?_)
      rintro _ w_17 ⟨t45_15, t45_16, rfl, h⟩
      refine ⟨_, rfl, ?_⟩
      refine y_k (.tuple #[.slice t45_15.a t45_15.n t45_15.c, .bool t45_16] : Value) w_17 rfl rfl rfl (by kernel_rfl) ?_
      refine y_k (.slice t45_15.a t45_15.n t45_15.c : Value) w_17 rfl rfl rfl (by kernel_rfl) ?_
      refine y_k (.bool t45_16 : Value) w_17 rfl rfl rfl (by kernel_rfl) ?_
      refine y_k (.slice t45_15.a t45_15.n t45_15.c : Value) w_17 rfl rfl rfl (by kernel_rfl) ?_
      refine y_k (.bool t45_16 : Value) w_17 rfl rfl rfl (by kernel_rfl) ?_
      refine y_nil ?_
      refine y_then (hK13 _ _ ?_)
      refine y_seq fun K14 hK14 => ?_
      refine y_region ?_
      refine y_k (.string s1_2 : Value) w_17 rfl rfl rfl (by kernel_rfl) ?_
      refine y_call rfl rfl rfl (by kernel_rfl) (h.mono ?_)
      rintro _ w_20 ⟨t50_18, t50_19, rfl, h⟩
      refine ⟨_, rfl, ?_⟩
      refine y_k (.tuple #[.slice t50_18.a t50_18.n t50_18.c, .bool t50_19] : Value) w_20 rfl rfl rfl (by kernel_rfl) ?_
      refine y_k (.slice t50_18.a t50_18.n t50_18.c : Value) w_20 rfl rfl rfl (by kernel_rfl) ?_
      refine y_k (.bool t50_19 : Value) w_20 rfl rfl rfl (by kernel_rfl) ?_
      refine y_k (.slice t50_18.a t50_18.n t50_18.c : Value) w_20 rfl rfl rfl (by kernel_rfl) ?_
      refine y_k (.bool t50_19 : Value) w_20 rfl rfl rfl (by kernel_rfl) ?_
      refine y_nil ?_
      refine y_then (hK14 _ _ ?_)
      refine y_seq fun K15 hK15 => ?_
      refine y_seq fun K16 hK16 => ?_
      refine y_region ?_
      refine y_k (.bool t37_10 : Value) w_20 rfl rfl rfl (by kernel_rfl) ?_
      refine y_k (.bool (!(t37_10)) : Value) w_20 rfl rfl rfl (by kernel_rfl) ?_
      refine y_k (.bool (!(t37_10)) : Value) w_20 rfl rfl rfl (by kernel_rfl) ?_
      refine y_fork (!(t37_10)) (fun hb17 => ?_) (fun hb17 => ?_)
      · replace h := h.1 ((not_true_of hb17))
        refine y_frame (upd_id (i := 55) (v := .bool true) rfl (congrArg Value.bool hb17)) ?_
        refine y_gno rfl rfl rfl rfl ?_
        refine y_gno rfl rfl rfl rfl ?_
        refine y_gno rfl rfl rfl rfl ?_
        refine y_gno rfl rfl rfl rfl ?_
        refine y_k (.bool true : Value) w_20 rfl rfl rfl (by kernel_rfl) ?_
        refine y_k (.bool true : Value) w_20 rfl rfl rfl (by kernel_rfl) ?_
        refine y_gno rfl rfl rfl rfl ?_
        refine y_gno rfl rfl rfl rfl ?_
        refine y_gno rfl rfl rfl rfl ?_
        refine y_k (.bool true : Value) w_20 rfl rfl rfl (by kernel_rfl) ?_
        refine y_k (.bool true : Value) w_20 rfl rfl rfl (by kernel_rfl) ?_
        refine y_gno rfl rfl rfl rfl ?_
        refine y_gno rfl rfl rfl rfl ?_
        refine y_gno rfl rfl rfl rfl ?_
        refine y_k (.bool true : Value) w_20 rfl rfl rfl (by kernel_rfl) ?_
        refine y_k (.bool true : Value) w_20 rfl rfl rfl (by kernel_rfl) ?_
        refine y_gno rfl rfl rfl rfl ?_
        refine y_gno rfl rfl rfl rfl ?_
        refine y_gno rfl rfl rfl rfl ?_
        refine y_gno rfl rfl rfl rfl ?_
        refine y_gno rfl rfl rfl rfl ?_
        refine y_k (.bool true : Value) w_20 rfl rfl rfl (by kernel_rfl) ?_
        refine y_k (.bool true : Value) w_20 rfl rfl rfl (by kernel_rfl) ?_
        refine y_gno rfl rfl rfl rfl ?_
        refine y_gno rfl rfl rfl rfl ?_
        refine y_gno rfl rfl rfl rfl ?_
        refine y_gno rfl rfl rfl rfl ?_
        refine y_gno rfl rfl rfl rfl ?_
        refine y_k (.bool true : Value) w_20 rfl rfl rfl (by kernel_rfl) ?_
        refine y_k (.bool true : Value) w_20 rfl rfl rfl (by kernel_rfl) ?_
        refine y_gno rfl rfl rfl rfl ?_
        refine y_gno rfl rfl rfl rfl ?_
        refine y_gno rfl rfl rfl rfl ?_
        refine y_gud rfl rfl rfl rfl ?_
        refine y_gud rfl rfl rfl rfl ?_
        refine y_gud rfl rfl rfl rfl ?_
        refine y_gud rfl rfl rfl rfl ?_
        refine y_gud rfl rfl rfl rfl ?_
        refine y_gud rfl rfl rfl rfl ?_
        refine y_gno rfl rfl rfl rfl ?_
        refine y_k (.bool true : Value) w_20 rfl rfl rfl (by kernel_rfl) ?_
        refine y_nil ?_
        refine y_then (hK16 _ _ ?_)
        refine y_cond_t rfl rfl ?_
        refine y_seq fun K18 hK18 => ?_
        refine y_region ?_
        refine y_k (.bool false : Value) w_20 rfl rfl rfl (by kernel_rfl) ?_
        refine y_nil ?_
        refine y_then (hK18 _ _ ?_)
        refine y_ret ?_
        repeat (first | refine e_then_r ?_ | refine e_block_r ?_)
        exact (hQ0 _ _ _ (res1 (v := (.bool false : Value)) rfl rfl rfl) ⟨_, rfl, h⟩).1
      · replace h := h.2 ((not_false_of hb17))
        refine y_frame (upd_id (i := 55) (v := .bool false) rfl (congrArg Value.bool hb17)) ?_
        refine y_gyes rfl rfl rfl ?_
        refine y_k (.string t34_8 : Value) w_20 rfl rfl rfl (by kernel_rfl) ?_
        refine y_gyes rfl rfl rfl ?_
        refine y_k (.slice b0_1.a b0_1.n b0_1.c : Value) w_20 rfl rfl rfl (by kernel_rfl) ?_
        refine y_gyes rfl rfl rfl ?_
        refine y_call rfl rfl rfl (by kernel_rfl) (h.mono ?_)
        rintro _ w_22 ⟨t58_21, rfl, h⟩
        refine ⟨_, rfl, ?_⟩
        refine y_gyes rfl rfl rfl ?_
        refine y_k (.bool (!((t34_8.toList == t58_21.toList))) : Value) w_22 rfl rfl rfl (by kernel_rfl) ?_
        refine y_k (.bool (!((t34_8.toList == t58_21.toList))) : Value) w_22 rfl rfl rfl (by kernel_rfl) ?_
        refine y_k (.bool (!((t34_8.toList == t58_21.toList))) : Value) w_22 rfl rfl rfl (by kernel_rfl) ?_
        refine y_fork (!((t34_8.toList == t58_21.toList))) (fun hb19 => ?_) (fun hb19 => ?_)
        · replace h := h.1 (beq_eq_false_iff_ne.mp (not_true_of hb19))
          refine y_frame (upd_id (i := 61) (v := .bool true) rfl (congrArg Value.bool hb19)) ?_
          refine y_gno rfl rfl rfl rfl ?_
          refine y_gno rfl rfl rfl rfl ?_
          refine y_gno rfl rfl rfl rfl ?_
          refine y_k (.bool true : Value) w_22 rfl rfl rfl (by kernel_rfl) ?_
          refine y_k (.bool true : Value) w_22 rfl rfl rfl (by kernel_rfl) ?_
          refine y_gno rfl rfl rfl rfl ?_
          refine y_gno rfl rfl rfl rfl ?_
          refine y_gno rfl rfl rfl rfl ?_
          refine y_k (.bool true : Value) w_22 rfl rfl rfl (by kernel_rfl) ?_
          refine y_k (.bool true : Value) w_22 rfl rfl rfl (by kernel_rfl) ?_
          refine y_gno rfl rfl rfl rfl ?_
          refine y_gno rfl rfl rfl rfl ?_
          refine y_gno rfl rfl rfl rfl ?_
          refine y_gno rfl rfl rfl rfl ?_
          refine y_gno rfl rfl rfl rfl ?_
          refine y_k (.bool true : Value) w_22 rfl rfl rfl (by kernel_rfl) ?_
          refine y_k (.bool true : Value) w_22 rfl rfl rfl (by kernel_rfl) ?_
          refine y_gno rfl rfl rfl rfl ?_
          refine y_gno rfl rfl rfl rfl ?_
          refine y_gno rfl rfl rfl rfl ?_
          refine y_gno rfl rfl rfl rfl ?_
          refine y_gno rfl rfl rfl rfl ?_
          refine y_k (.bool true : Value) w_22 rfl rfl rfl (by kernel_rfl) ?_
          refine y_k (.bool true : Value) w_22 rfl rfl rfl (by kernel_rfl) ?_
          refine y_gno rfl rfl rfl rfl ?_
          refine y_gno rfl rfl rfl rfl ?_
          refine y_gno rfl rfl rfl rfl ?_
          refine y_gud rfl rfl rfl rfl ?_
          refine y_gud rfl rfl rfl rfl ?_
          refine y_gud rfl rfl rfl rfl ?_
          refine y_gud rfl rfl rfl rfl ?_
          refine y_gud rfl rfl rfl rfl ?_
          refine y_gud rfl rfl rfl rfl ?_
          refine y_gno rfl rfl rfl rfl ?_
          refine y_k (.bool true : Value) w_22 rfl rfl rfl (by kernel_rfl) ?_
          refine y_nil ?_
          refine y_then (hK16 _ _ ?_)
          refine y_cond_t rfl rfl ?_
          refine y_seq fun K20 hK20 => ?_
          refine y_region ?_
          refine y_k (.bool false : Value) w_22 rfl rfl rfl (by kernel_rfl) ?_
          refine y_nil ?_
          refine y_then (hK20 _ _ ?_)
          refine y_ret ?_
          repeat (first | refine e_then_r ?_ | refine e_block_r ?_)
          exact (hQ0 _ _ _ (res1 (v := (.bool false : Value)) rfl rfl rfl) ⟨_, rfl, h⟩).1
        · replace h := h.2 (eq_of_beq (not_false_of hb19))
          refine y_frame (upd_id (i := 61) (v := .bool false) rfl (congrArg Value.bool hb19)) ?_
          refine y_gyes rfl rfl rfl ?_
          refine y_k (.bool t40_13 : Value) w_22 rfl rfl rfl (by kernel_rfl) ?_
          refine y_gyes rfl rfl rfl ?_
          refine y_k (.bool t50_19 : Value) w_22 rfl rfl rfl (by kernel_rfl) ?_
          refine y_gyes rfl rfl rfl ?_
          obtain ⟨t64_23, hx21, h⟩ := h
          refine y_v (s := do eqGuard .neq 4 (Operand.tmp 62) (Operand.tmp 63) (.bool t40_13 : Value) (.bool t50_19 : Value); binOp .neq 4 (.bool t40_13 : Value) (.bool t50_19 : Value)) rfl rfl rfl (by kernel_rfl) (hx21) ?_
          refine y_k (.bool t64_23 : Value) w_22 rfl rfl rfl (by kernel_rfl) ?_
          refine y_k (.bool t64_23 : Value) w_22 rfl rfl rfl (by kernel_rfl) ?_
          refine y_fork (t64_23) (fun hb22 => ?_) (fun hb22 => ?_)
          · replace h := h.1 (hb22)
            refine y_frame (upd_id (i := 66) (v := .bool true) rfl (congrArg Value.bool hb22)) ?_
            refine y_gno rfl rfl rfl rfl ?_
            refine y_gno rfl rfl rfl rfl ?_
            refine y_gno rfl rfl rfl rfl ?_
            refine y_k (.bool true : Value) w_22 rfl rfl rfl (by kernel_rfl) ?_
            refine y_k (.bool true : Value) w_22 rfl rfl rfl (by kernel_rfl) ?_
            refine y_gno rfl rfl rfl rfl ?_
            refine y_gno rfl rfl rfl rfl ?_
            refine y_gno rfl rfl rfl rfl ?_
            refine y_gno rfl rfl rfl rfl ?_
            refine y_gno rfl rfl rfl rfl ?_
            refine y_k (.bool true : Value) w_22 rfl rfl rfl (by kernel_rfl) ?_
            refine y_k (.bool true : Value) w_22 rfl rfl rfl (by kernel_rfl) ?_
            refine y_gno rfl rfl rfl rfl ?_
            refine y_gno rfl rfl rfl rfl ?_
            refine y_gno rfl rfl rfl rfl ?_
            refine y_gno rfl rfl rfl rfl ?_
            refine y_gno rfl rfl rfl rfl ?_
            refine y_k (.bool true : Value) w_22 rfl rfl rfl (by kernel_rfl) ?_
            refine y_k (.bool true : Value) w_22 rfl rfl rfl (by kernel_rfl) ?_
            refine y_gno rfl rfl rfl rfl ?_
            refine y_gno rfl rfl rfl rfl ?_
            refine y_gno rfl rfl rfl rfl ?_
            refine y_gud rfl rfl rfl rfl ?_
            refine y_gud rfl rfl rfl rfl ?_
            refine y_gud rfl rfl rfl rfl ?_
            refine y_gud rfl rfl rfl rfl ?_
            refine y_gud rfl rfl rfl rfl ?_
            refine y_gud rfl rfl rfl rfl ?_
            refine y_gno rfl rfl rfl rfl ?_
            refine y_k (.bool true : Value) w_22 rfl rfl rfl (by kernel_rfl) ?_
            refine y_nil ?_
            refine y_then (hK16 _ _ ?_)
            refine y_cond_t rfl rfl ?_
            refine y_seq fun K23 hK23 => ?_
            refine y_region ?_
            refine y_k (.bool false : Value) w_22 rfl rfl rfl (by kernel_rfl) ?_
            refine y_nil ?_
            refine y_then (hK23 _ _ ?_)
            refine y_ret ?_
            repeat (first | refine e_then_r ?_ | refine e_block_r ?_)
            exact (hQ0 _ _ _ (res1 (v := (.bool false : Value)) rfl rfl rfl) ⟨_, rfl, h⟩).1
          · replace h := h.2 (hb22)
            refine y_frame (upd_id (i := 66) (v := .bool false) rfl (congrArg Value.bool hb22)) ?_
            refine y_gyes rfl rfl rfl ?_
            refine y_k (.bool t45_16 : Value) w_22 rfl rfl rfl (by kernel_rfl) ?_
            refine y_gyes rfl rfl rfl ?_
            refine y_k (.bool t50_19 : Value) w_22 rfl rfl rfl (by kernel_rfl) ?_
            refine y_gyes rfl rfl rfl ?_
            obtain ⟨t69_24, hx24, h⟩ := h
            refine y_v (s := do eqGuard .neq 4 (Operand.tmp 67) (Operand.tmp 68) (.bool t45_16 : Value) (.bool t50_19 : Value); binOp .neq 4 (.bool t45_16 : Value) (.bool t50_19 : Value)) rfl rfl rfl (by kernel_rfl) (hx24) ?_
            refine y_k (.bool t69_24 : Value) w_22 rfl rfl rfl (by kernel_rfl) ?_
            refine y_k (.bool t69_24 : Value) w_22 rfl rfl rfl (by kernel_rfl) ?_
            refine y_fork (t69_24) (fun hb25 => ?_) (fun hb25 => ?_)
            · replace h := h.1 (hb25)
              refine y_frame (upd_id (i := 71) (v := .bool true) rfl (congrArg Value.bool hb25)) ?_
              refine y_gno rfl rfl rfl rfl ?_
              refine y_gno rfl rfl rfl rfl ?_
              refine y_gno rfl rfl rfl rfl ?_
              refine y_gno rfl rfl rfl rfl ?_
              refine y_gno rfl rfl rfl rfl ?_
              refine y_k (.bool true : Value) w_22 rfl rfl rfl (by kernel_rfl) ?_
              refine y_k (.bool true : Value) w_22 rfl rfl rfl (by kernel_rfl) ?_
              refine y_gno rfl rfl rfl rfl ?_
              refine y_gno rfl rfl rfl rfl ?_
              refine y_gno rfl rfl rfl rfl ?_
              refine y_gno rfl rfl rfl rfl ?_
              refine y_gno rfl rfl rfl rfl ?_
              refine y_k (.bool true : Value) w_22 rfl rfl rfl (by kernel_rfl) ?_
              refine y_k (.bool true : Value) w_22 rfl rfl rfl (by kernel_rfl) ?_
              refine y_gno rfl rfl rfl rfl ?_
              refine y_gno rfl rfl rfl rfl ?_
              refine y_gno rfl rfl rfl rfl ?_
              refine y_gud rfl rfl rfl rfl ?_
              refine y_gud rfl rfl rfl rfl ?_
              refine y_gud rfl rfl rfl rfl ?_
              refine y_gud rfl rfl rfl rfl ?_
              refine y_gud rfl rfl rfl rfl ?_
              refine y_gud rfl rfl rfl rfl ?_
              refine y_gno rfl rfl rfl rfl ?_
              refine y_k (.bool true : Value) w_22 rfl rfl rfl (by kernel_rfl) ?_
              refine y_nil ?_
              refine y_then (hK16 _ _ ?_)
              refine y_cond_t rfl rfl ?_
              refine y_seq fun K26 hK26 => ?_
              refine y_region ?_
              refine y_k (.bool false : Value) w_22 rfl rfl rfl (by kernel_rfl) ?_
              refine y_nil ?_
              refine y_then (hK26 _ _ ?_)
              refine y_ret ?_
              repeat (first | refine e_then_r ?_ | refine e_block_r ?_)
              exact (hQ0 _ _ _ (res1 (v := (.bool false : Value)) rfl rfl rfl) ⟨_, rfl, h⟩).1
            · replace h := h.2 (hb25)
              refine y_frame (upd_id (i := 71) (v := .bool false) rfl (congrArg Value.bool hb25)) ?_
              refine y_gyes rfl rfl rfl ?_
              refine y_k (.slice t40_12.a t40_12.n t40_12.c : Value) w_22 rfl rfl rfl (by kernel_rfl) ?_
              refine y_gyes rfl rfl rfl ?_
              obtain ⟨t73_25, hx27, h⟩ := h
              refine y_v (s := convert 33 9 (.slice t40_12.a t40_12.n t40_12.c : Value)) rfl rfl rfl (by kernel_rfl) (hx27) ?_
              refine y_gyes rfl rfl rfl ?_
              refine y_k (.slice t50_18.a t50_18.n t50_18.c : Value) w_22 rfl rfl rfl (by kernel_rfl) ?_
              refine y_gyes rfl rfl rfl ?_
              obtain ⟨t75_26, hx28, h⟩ := h
              refine y_v (s := convert 33 9 (.slice t50_18.a t50_18.n t50_18.c : Value)) rfl rfl rfl (by kernel_rfl) (hx28) ?_
              refine y_gyes rfl rfl rfl ?_
              refine y_k (.bool (!((t73_25.toList == t75_26.toList))) : Value) w_22 rfl rfl rfl (by kernel_rfl) ?_
              refine y_k (.bool (!((t73_25.toList == t75_26.toList))) : Value) w_22 rfl rfl rfl (by kernel_rfl) ?_
              refine y_k (.bool (!((t73_25.toList == t75_26.toList))) : Value) w_22 rfl rfl rfl (by kernel_rfl) ?_
              refine y_fork (!((t73_25.toList == t75_26.toList))) (fun hb29 => ?_) (fun hb29 => ?_)
              · replace h := h.1 (beq_eq_false_iff_ne.mp (not_true_of hb29))
                refine y_frame (upd_id (i := 78) (v := .bool true) rfl (congrArg Value.bool hb29)) ?_
                refine y_gno rfl rfl rfl rfl ?_
                refine y_gno rfl rfl rfl rfl ?_
                refine y_gno rfl rfl rfl rfl ?_
                refine y_gno rfl rfl rfl rfl ?_
                refine y_gno rfl rfl rfl rfl ?_
                refine y_k (.bool true : Value) w_22 rfl rfl rfl (by kernel_rfl) ?_
                refine y_k (.bool true : Value) w_22 rfl rfl rfl (by kernel_rfl) ?_
                refine y_gno rfl rfl rfl rfl ?_
                refine y_gno rfl rfl rfl rfl ?_
                refine y_gno rfl rfl rfl rfl ?_
                refine y_gud rfl rfl rfl rfl ?_
                refine y_gud rfl rfl rfl rfl ?_
                refine y_gud rfl rfl rfl rfl ?_
                refine y_gud rfl rfl rfl rfl ?_
                refine y_gud rfl rfl rfl rfl ?_
                refine y_gud rfl rfl rfl rfl ?_
                refine y_gno rfl rfl rfl rfl ?_
                refine y_k (.bool true : Value) w_22 rfl rfl rfl (by kernel_rfl) ?_
                refine y_nil ?_
                refine y_then (hK16 _ _ ?_)
                refine y_cond_t rfl rfl ?_
                refine y_seq fun K30 hK30 => ?_
                refine y_region ?_
                refine y_k (.bool false : Value) w_22 rfl rfl rfl (by kernel_rfl) ?_
                refine y_nil ?_
                refine y_then (hK30 _ _ ?_)
                refine y_ret ?_
                repeat (first | refine e_then_r ?_ | refine e_block_r ?_)
                exact (hQ0 _ _ _ (res1 (v := (.bool false : Value)) rfl rfl rfl) ⟨_, rfl, h⟩).1
              · replace h := h.2 (eq_of_beq (not_false_of hb29))
                refine y_frame (upd_id (i := 78) (v := .bool false) rfl (congrArg Value.bool hb29)) ?_
                refine y_gyes rfl rfl rfl ?_
                refine y_k (.slice t45_15.a t45_15.n t45_15.c : Value) w_22 rfl rfl rfl (by kernel_rfl) ?_
                refine y_gyes rfl rfl rfl ?_
                obtain ⟨t80_27, hx31, h⟩ := h
                refine y_v (s := convert 33 9 (.slice t45_15.a t45_15.n t45_15.c : Value)) rfl rfl rfl (by kernel_rfl) (hx31) ?_
                refine y_gyes rfl rfl rfl ?_
                refine y_k (.slice t50_18.a t50_18.n t50_18.c : Value) w_22 rfl rfl rfl (by kernel_rfl) ?_
                refine y_gyes rfl rfl rfl ?_
                obtain ⟨t82_28, hx32, h⟩ := h
                refine y_v (s := convert 33 9 (.slice t50_18.a t50_18.n t50_18.c : Value)) rfl rfl rfl (by kernel_rfl) (hx32) ?_
                refine y_gyes rfl rfl rfl ?_
                refine y_k (.bool (!((t80_27.toList == t82_28.toList))) : Value) w_22 rfl rfl rfl (by kernel_rfl) ?_
                refine y_k (.bool (!((t80_27.toList == t82_28.toList))) : Value) w_22 rfl rfl rfl (by kernel_rfl) ?_
                refine y_k (.bool (!((t80_27.toList == t82_28.toList))) : Value) w_22 rfl rfl rfl (by kernel_rfl) ?_
                refine y_fork (!((t80_27.toList == t82_28.toList))) (fun hb33 => ?_) (fun hb33 => ?_)
                · replace h := h.1 (beq_eq_false_iff_ne.mp (not_true_of hb33))
                  refine y_frame (upd_id (i := 85) (v := .bool true) rfl (congrArg Value.bool hb33)) ?_
                  refine y_gno rfl rfl rfl rfl ?_
                  refine y_gno rfl rfl rfl rfl ?_
                  refine y_gno rfl rfl rfl rfl ?_
                  refine y_gud rfl rfl rfl rfl ?_
                  refine y_gud rfl rfl rfl rfl ?_
                  refine y_gud rfl rfl rfl rfl ?_
                  refine y_gud rfl rfl rfl rfl ?_
                  refine y_gud rfl rfl rfl rfl ?_
                  refine y_gud rfl rfl rfl rfl ?_
                  refine y_gno rfl rfl rfl rfl ?_
                  refine y_k (.bool true : Value) w_22 rfl rfl rfl (by kernel_rfl) ?_
                  refine y_nil ?_
                  refine y_then (hK16 _ _ ?_)
                  refine y_cond_t rfl rfl ?_
                  refine y_seq fun K34 hK34 => ?_
                  refine y_region ?_
                  refine y_k (.bool false : Value) w_22 rfl rfl rfl (by kernel_rfl) ?_
                  refine y_nil ?_
                  refine y_then (hK34 _ _ ?_)
                  refine y_ret ?_
                  repeat (first | refine e_then_r ?_ | refine e_block_r ?_)
                  exact (hQ0 _ _ _ (res1 (v := (.bool false : Value)) rfl rfl rfl) ⟨_, rfl, h⟩).1
                · replace h := h.2 (eq_of_beq (not_false_of hb33))
                  refine y_frame (upd_id (i := 85) (v := .bool false) rfl (congrArg Value.bool hb33)) ?_
                  refine y_gyes rfl rfl rfl ?_
                  refine y_k (.bool t50_19 : Value) w_22 rfl rfl rfl (by kernel_rfl) ?_
                  refine y_gyes rfl rfl rfl ?_
                  refine y_k (.bool (!(t50_19)) : Value) w_22 rfl rfl rfl (by kernel_rfl) ?_
                  refine y_gyes rfl rfl rfl ?_
                  refine y_k (.bool (!(t50_19)) : Value) w_22 rfl rfl rfl (by kernel_rfl) ?_
                  refine y_fork (!(t50_19)) (fun hb35 => ?_) (fun hb35 => ?_)
                  · replace h := h.1 ((not_true_of hb35))
                    refine y_frame (upd_id (i := 88) (v := .bool true) rfl (congrArg Value.bool hb35)) ?_
                    refine y_gyes rfl rfl rfl ?_
                    refine y_k (.slice t40_12.a t40_12.n t40_12.c : Value) w_22 rfl rfl rfl (by kernel_rfl) ?_
                    refine y_gyes rfl rfl rfl ?_
                    refine y_k (.int .i64 ((t40_12.n : Int)) : Value) w_22 rfl rfl rfl (by kernel_rfl) ?_
                    refine y_gyes rfl rfl rfl ?_
                    refine y_k (.slice t45_15.a t45_15.n t45_15.c : Value) w_22 rfl rfl rfl (by kernel_rfl) ?_
                    refine y_gyes rfl rfl rfl ?_
                    refine y_k (.int .i64 ((t45_15.n : Int)) : Value) w_22 rfl rfl rfl (by kernel_rfl) ?_
                    refine y_gyes rfl rfl rfl ?_
                    refine y_k (.int .i64 (IntKind.i64.wrap (((t40_12.n : Int)) + ((t45_15.n : Int)))) : Value) w_22 rfl rfl rfl (by kernel_rfl) ?_
                    refine y_gyes rfl rfl rfl ?_
                    refine y_k (.bool (decide ((IntKind.i64.wrap (((t40_12.n : Int)) + ((t45_15.n : Int)))) > 0)) : Value) w_22 rfl rfl rfl (by kernel_rfl) ?_
                    refine y_gyes rfl rfl rfl ?_
                    refine y_k (.bool (decide ((IntKind.i64.wrap (((t40_12.n : Int)) + ((t45_15.n : Int)))) > 0)) : Value) w_22 rfl rfl rfl (by kernel_rfl) ?_
                    refine y_k (.bool (decide ((IntKind.i64.wrap (((t40_12.n : Int)) + ((t45_15.n : Int)))) > 0)) : Value) w_22 rfl rfl rfl (by kernel_rfl) ?_
                    refine y_nil ?_
                    refine y_then (hK16 _ _ ?_)
                    refine y_cond (decide ((IntKind.i64.wrap (((t40_12.n : Int)) + ((t45_15.n : Int)))) > 0)) rfl rfl (fun hb68 => ?_) (fun hb68 => ?_)
                    · replace h := h.1 (of_decide_eq_true hb68)
                      refine y_seq fun K36 hK36 => ?_
                      refine y_region ?_
                      refine y_k (.bool false : Value) w_22 rfl rfl rfl (by kernel_rfl) ?_
                      refine y_nil ?_
                      refine y_then (hK36 _ _ ?_)
                      refine y_ret ?_
                      repeat (first | refine e_then_r ?_ | refine e_block_r ?_)
                      exact (hQ0 _ _ _ (res1 (v := (.bool false : Value)) rfl rfl rfl) ⟨_, rfl, h⟩).1
                    · replace h := h.2 (of_decide_eq_false hb68)
                      refine y_skip ?_
                      refine y_then (hK15 _ _ ?_)
                      refine y_seq fun K37 hK37 => ?_
                      refine y_seq fun K38 hK38 => ?_
                      refine y_region ?_
                      refine y_k (.int .i64 0 : Value) w_22 rfl rfl rfl (by kernel_rfl) ?_
                      refine y_nil ?_
                      refine y_then (hK38 _ _ ?_)
                      refine y_block ?_
                      refine y_loop (S := Int) (fun s j => match s with | (i15_29) => upd (upd (upd (upd (upd (upd (j) 0 (.slice b0_1.a b0_1.n b0_1.c : Value)) 7 (.string t34_8 : Value)) 9 (.slice t40_12.a t40_12.n t40_12.c : Value)) 11 (.slice t45_15.a t45_15.n t45_15.c : Value)) 13 (.slice t50_18.a t50_18.n t50_18.c : Value)) 15 (.int .i64 i15_29 : Value)) (0) ?_ h ?_
                      · dsimp only
                        refine upd_id ?_ rfl
                        refine upd_id ?_ rfl
                        refine upd_id ?_ rfl
                        refine upd_id ?_ rfl
                        refine upd_id ?_ rfl
                        refine upd_id ?_ rfl
                        rfl
                      rintro KN41 next40 hN41 i15_29 j w_30 h
                      unfold F9_l1 at h
                      refine y_seq fun K42 hK42 => ?_
                      refine y_seq fun K43 hK43 => ?_
                      refine y_region ?_
                      refine y_k (.int .i64 i15_29 : Value) w_30 rfl rfl rfl (by kernel_rfl) ?_
                      refine y_k (.slice t40_12.a t40_12.n t40_12.c : Value) w_30 rfl rfl rfl (by kernel_rfl) ?_
                      refine y_k (.int .i64 ((t40_12.n : Int)) : Value) w_30 rfl rfl rfl (by kernel_rfl) ?_
                      refine y_k (.bool (decide (i15_29 < ((t40_12.n : Int)))) : Value) w_30 rfl rfl rfl (by kernel_rfl) ?_
                      refine y_nil ?_
                      refine y_then (hK43 _ _ ?_)
                      refine y_cond (decide (i15_29 < ((t40_12.n : Int)))) rfl rfl (fun hb67 => ?_) (fun hb67 => ?_)
                      · replace h := h.1 (of_decide_eq_true hb67)
                        refine y_skip ?_
                        refine y_then (hK42 _ _ ?_)
                        refine y_seq fun K44 hK44 => ?_
                        refine y_block ?_
                        refine y_region ?_
                        refine y_k (.slice t40_12.a t40_12.n t40_12.c : Value) w_30 rfl rfl rfl (by kernel_rfl) ?_
                        refine y_k (.int .i64 i15_29 : Value) w_30 rfl rfl rfl (by kernel_rfl) ?_
                        obtain ⟨hx46a, hx46b, a_31, hx46, h⟩ := h
                        refine y_v (v := (.pointer (some (a_31.add (Int.toNat i15_29))) : Value)) (s := Instr.indexAt 33 (.slice t40_12.a t40_12.n t40_12.c : Value) (.int .i64 i15_29 : Value)) rfl rfl rfl (by kernel_rfl) (run_ixs1 (el := 5) (by kernel_rfl) (by kernel_rfl) hx46 hx46a hx46b) ?_
                        obtain ⟨hx47, h⟩ := h
                        replace h := h _ rfl
                        refine y_u (s := Instr.storeAt 5 (.pointer (some (a_31.add (Int.toNat i15_29)))) (.int .u8 201 : Value)) rfl rfl (by kernel_rfl) (rn_store1 (by kernel_rfl) rfl hx47) ?_
                        generalize w_30.setCell (a_31.add (Int.toNat i15_29)) (.int .u8 201 : Value) = w_32 at h ⊢
                        refine y_nil ?_
                        refine e_block_n ?_
                        refine y_then (hK44 _ _ ?_)
                        refine y_region ?_
                        refine y_k (.int .i64 i15_29 : Value) w_32 rfl rfl rfl (by kernel_rfl) ?_
                        refine y_k (.int .i64 (IntKind.i64.wrap (i15_29 + 1)) : Value) w_32 rfl rfl rfl (by kernel_rfl) ?_
                        refine y_k (.int .i64 (IntKind.i64.wrap (i15_29 + 1)) : Value) w_32 rfl rfl rfl (by kernel_rfl) ?_
                        refine y_nil ?_
                        refine y_then (hN41 (IntKind.i64.wrap (i15_29 + 1)) _ _ h ?_)
                        dsimp only
                        refine upd_id ?_ rfl
                        refine upd_id ?_ rfl
                        refine upd_id ?_ rfl
                        refine upd_id ?_ rfl
                        refine upd_id ?_ rfl
                        refine upd_id ?_ rfl
                        rfl
                      · replace h := h.2 (of_decide_eq_false hb67)
                        refine y_exit ?_
                        repeat (first | refine e_then_x ?_ | refine e_block_y rfl ?_)
                        refine e_block_x ?_
                        refine y_then (hK37 _ _ ?_)
                        refine y_seq fun K48 hK48 => ?_
                        refine y_seq fun K49 hK49 => ?_
                        refine y_region ?_
                        refine y_k (.int .i64 0 : Value) w_30 rfl rfl rfl (by kernel_rfl) ?_
                        refine y_nil ?_
                        refine y_then (hK49 _ _ ?_)
                        refine y_block ?_
                        refine y_loop (S := Sl × Int) (fun s j => match s with | (x9_33, i16_34) => upd (upd (upd (upd (upd (upd (j) 0 (.slice b0_1.a b0_1.n b0_1.c : Value)) 7 (.string t34_8 : Value)) 9 (.slice x9_33.a x9_33.n x9_33.c : Value)) 11 (.slice t45_15.a t45_15.n t45_15.c : Value)) 13 (.slice t50_18.a t50_18.n t50_18.c : Value)) 16 (.int .i64 i16_34 : Value)) (t40_12, 0) ?_ h ?_
                        · dsimp only
                          refine upd_id ?_ rfl
                          refine upd_id ?_ rfl
                          refine upd_id ?_ rfl
                          refine upd_id ?_ rfl
                          refine upd_id ?_ rfl
                          refine upd_id ?_ rfl
                          rfl
                        rintro KN52 next51 hN52 ⟨x9_33, i16_34⟩ j w_35 h
                        unfold F9_l2 at h
                        refine y_seq fun K53 hK53 => ?_
                        refine y_seq fun K54 hK54 => ?_
                        refine y_region ?_
                        refine y_k (.int .i64 i16_34 : Value) w_35 rfl rfl rfl (by kernel_rfl) ?_
                        refine y_k (.bool (decide (i16_34 < 64)) : Value) w_35 rfl rfl rfl (by kernel_rfl) ?_
                        refine y_nil ?_
                        refine y_then (hK54 _ _ ?_)
                        refine y_cond (decide (i16_34 < 64)) rfl rfl (fun hb66 => ?_) (fun hb66 => ?_)
                        · replace h := h.1 (of_decide_eq_true hb66)
                          refine y_skip ?_
                          refine y_then (hK53 _ _ ?_)
                          refine y_seq fun K55 hK55 => ?_
                          refine y_block ?_
                          refine y_region ?_
                          refine y_k (.slice x9_33.a x9_33.n x9_33.c : Value) w_35 rfl rfl rfl (by kernel_rfl) ?_
                          refine y_k (.slice (some ⟨w_35.heap.size, 0, none⟩) 1 1 : Value) (w_35.alloc (.cells #[.int .u8 201] 5)) rfl rfl rfl (by kernel_rfl) ?_
                          replace h := h _ rfl
                          generalize w_35.alloc (.cells #[.int .u8 201] 5) = w_36 at h ⊢
                          obtain ⟨t112_37, w_38, hx57, h⟩ := h
                          refine y_v (s := Builtin.append_ #[33, 33] 33 #[.slice x9_33.a x9_33.n x9_33.c, .slice (some ⟨w_35.heap.size, 0, none⟩) 1 1]) rfl rfl rfl (by kernel_rfl) hx57 ?_
                          refine y_k (.slice t112_37.a t112_37.n t112_37.c : Value) w_38 rfl rfl rfl (by kernel_rfl) ?_
                          refine y_nil ?_
                          refine e_block_n ?_
                          refine y_then (hK55 _ _ ?_)
                          refine y_region ?_
                          refine y_k (.int .i64 i16_34 : Value) w_38 rfl rfl rfl (by kernel_rfl) ?_
                          refine y_k (.int .i64 (IntKind.i64.wrap (i16_34 + 1)) : Value) w_38 rfl rfl rfl (by kernel_rfl) ?_
                          refine y_k (.int .i64 (IntKind.i64.wrap (i16_34 + 1)) : Value) w_38 rfl rfl rfl (by kernel_rfl) ?_
                          refine y_nil ?_
                          refine y_then (hN52 (t112_37, IntKind.i64.wrap (i16_34 + 1)) _ _ h ?_)
                          dsimp only
                          refine upd_id ?_ rfl
                          refine upd_id ?_ rfl
                          refine upd_id ?_ rfl
                          refine upd_id ?_ rfl
                          refine upd_id ?_ rfl
                          refine upd_id ?_ rfl
                          rfl
                        · replace h := h.2 (of_decide_eq_false hb66)
                          refine y_exit ?_
                          repeat (first | refine e_then_x ?_ | refine e_block_y rfl ?_)
                          refine e_block_x ?_
                          refine y_then (hK48 _ _ ?_)
                          refine y_seq fun K58 hK58 => ?_
                          refine y_region ?_
                          refine y_k (.string t34_8 : Value) w_35 rfl rfl rfl (by kernel_rfl) ?_
                          refine y_call rfl rfl rfl (by kernel_rfl) (h.mono ?_)
                          rintro _ w_41 ⟨t115_39, t115_40, rfl, h⟩
                          refine ⟨_, rfl, ?_⟩
                          refine y_k (.tuple #[.slice t115_39.a t115_39.n t115_39.c, .bool t115_40] : Value) w_41 rfl rfl rfl (by kernel_rfl) ?_
                          refine y_k (.slice t115_39.a t115_39.n t115_39.c : Value) w_41 rfl rfl rfl (by kernel_rfl) ?_
                          refine y_k (.bool t115_40 : Value) w_41 rfl rfl rfl (by kernel_rfl) ?_
                          refine y_k (.slice t115_39.a t115_39.n t115_39.c : Value) w_41 rfl rfl rfl (by kernel_rfl) ?_
                          refine y_k (.bool t115_40 : Value) w_41 rfl rfl rfl (by kernel_rfl) ?_
                          refine y_nil ?_
                          refine y_then (hK58 _ _ ?_)
                          refine y_seq fun K59 hK59 => ?_
                          have hjK59 : ∀ (f : Fr) (t4_46 : Bool) (w_47 : World), f 4 = (.bool t4_46 : Value) → F9_j3 K t4_46 w_47 → WK K59 133 f w_47 := by
                            intro f t4_46 w_47 e4 h
                            refine y_atf (upd_id rfl e4) ?_
                            clear e4
                            unfold F9_j3 at h
                            refine hK59 _ _ ?_
                            refine y_ret ?_
                            repeat (first | refine e_then_r ?_ | refine e_block_r ?_)
                            exact (hQ0 _ _ _ (res1 (v := (.bool t4_46 : Value)) rfl rfl rfl) ⟨_, rfl, h⟩).1
                          refine y_region ?_
                          refine y_k (.slice t45_15.a t45_15.n t45_15.c : Value) w_41 rfl rfl rfl (by kernel_rfl) ?_
                          obtain ⟨t119_42, hx60, h⟩ := h
                          refine y_v (s := convert 33 9 (.slice t45_15.a t45_15.n t45_15.c : Value)) rfl rfl rfl (by kernel_rfl) (hx60) ?_
                          refine y_k (.slice t50_18.a t50_18.n t50_18.c : Value) w_41 rfl rfl rfl (by kernel_rfl) ?_
                          obtain ⟨t121_43, hx61, h⟩ := h
                          refine y_v (s := convert 33 9 (.slice t50_18.a t50_18.n t50_18.c : Value)) rfl rfl rfl (by kernel_rfl) (hx61) ?_
                          refine y_k (.bool ((t119_42.toList == t121_43.toList)) : Value) w_41 rfl rfl rfl (by kernel_rfl) ?_
                          refine y_k (.bool ((t119_42.toList == t121_43.toList)) : Value) w_41 rfl rfl rfl (by kernel_rfl) ?_
                          refine y_fork ((t119_42.toList == t121_43.toList)) (fun hb62 => ?_) (fun hb62 => ?_)
                          · replace h := h.1 (eq_of_beq hb62)
                            refine y_frame (upd_id (i := 123) (v := .bool true) rfl (congrArg Value.bool hb62)) ?_
                            refine y_gyes rfl rfl rfl ?_
                            refine y_k (.bool t115_40 : Value) w_41 rfl rfl rfl (by kernel_rfl) ?_
                            refine y_k (.bool t115_40 : Value) w_41 rfl rfl rfl (by kernel_rfl) ?_
                            refine y_k (.bool t115_40 : Value) w_41 rfl rfl rfl (by kernel_rfl) ?_
                            refine y_fork (t115_40) (fun hb63 => ?_) (fun hb63 => ?_)
                            · replace h := h.1 (hb63)
                              refine y_frame (upd_id (i := 126) (v := .bool true) rfl (congrArg Value.bool hb63)) ?_
                              refine y_gyes rfl rfl rfl ?_
                              refine y_k (.slice t115_39.a t115_39.n t115_39.c : Value) w_41 rfl rfl rfl (by kernel_rfl) ?_
                              refine y_gyes rfl rfl rfl ?_
                              obtain ⟨t128_44, hx64, h⟩ := h
                              refine y_v (s := convert 33 9 (.slice t115_39.a t115_39.n t115_39.c : Value)) rfl rfl rfl (by kernel_rfl) (hx64) ?_
                              refine y_gyes rfl rfl rfl ?_
                              refine y_k (.slice b0_1.a b0_1.n b0_1.c : Value) w_41 rfl rfl rfl (by kernel_rfl) ?_
                              refine y_gyes rfl rfl rfl ?_
                              obtain ⟨t130_45, hx65, h⟩ := h
                              refine y_v (s := convert 33 9 (.slice b0_1.a b0_1.n b0_1.c : Value)) rfl rfl rfl (by kernel_rfl) (hx65) ?_
                              refine y_gyes rfl rfl rfl ?_
                              refine y_k (.bool ((t128_44.toList == t130_45.toList)) : Value) w_41 rfl rfl rfl (by kernel_rfl) ?_
                              refine y_k (.bool ((t128_44.toList == t130_45.toList)) : Value) w_41 rfl rfl rfl (by kernel_rfl) ?_
                              refine y_k (.bool ((t128_44.toList == t130_45.toList)) : Value) w_41 rfl rfl rfl (by kernel_rfl) ?_
                              refine y_nil ?_
                              exact y_then (hjK59 _ ((t128_44.toList == t130_45.toList)) w_41 rfl h)
                            · replace h := h.2 (hb63)
                              refine y_frame (upd_id (i := 126) (v := .bool false) rfl (congrArg Value.bool hb63)) ?_
                              refine y_gno rfl rfl rfl rfl ?_
                              refine y_gno rfl rfl rfl rfl ?_
                              refine y_gno rfl rfl rfl rfl ?_
                              refine y_gno rfl rfl rfl rfl ?_
                              refine y_gno rfl rfl rfl rfl ?_
                              refine y_k (.bool false : Value) w_41 rfl rfl rfl (by kernel_rfl) ?_
                              refine y_k (.bool false : Value) w_41 rfl rfl rfl (by kernel_rfl) ?_
                              refine y_nil ?_
                              exact y_then (hjK59 _ false w_41 rfl h)
                          · replace h := h.2 (beq_eq_false_iff_ne.mp hb62)
                            refine y_frame (upd_id (i := 123) (v := .bool false) rfl (congrArg Value.bool hb62)) ?_
                            refine y_gno rfl rfl rfl rfl ?_
                            refine y_k (.bool false : Value) w_41 rfl rfl rfl (by kernel_rfl) ?_
                            refine y_k (.bool false : Value) w_41 rfl rfl rfl (by kernel_rfl) ?_
                            refine y_gno rfl rfl rfl rfl ?_
                            refine y_gno rfl rfl rfl rfl ?_
                            refine y_gno rfl rfl rfl rfl ?_
                            refine y_gno rfl rfl rfl rfl ?_
                            refine y_gno rfl rfl rfl rfl ?_
                            refine y_k (.bool false : Value) w_41 rfl rfl rfl (by kernel_rfl) ?_
                            refine y_k (.bool false : Value) w_41 rfl rfl rfl (by kernel_rfl) ?_
                            refine y_nil ?_
                            exact y_then (hjK59 _ false w_41 rfl h)
                  · replace h := h.2 ((not_false_of hb35))
                    refine y_frame (upd_id (i := 88) (v := .bool false) rfl (congrArg Value.bool hb35)) ?_
                    refine y_gno rfl rfl rfl rfl ?_
                    refine y_gno rfl rfl rfl rfl ?_
                    refine y_gno rfl rfl rfl rfl ?_
                    refine y_gno rfl rfl rfl rfl ?_
                    refine y_gno rfl rfl rfl rfl ?_
                    refine y_gno rfl rfl rfl rfl ?_
                    refine y_gyes rfl rfl rfl ?_
                    refine y_k (.bool false : Value) w_22 rfl rfl rfl (by kernel_rfl) ?_
                    refine y_k (.bool false : Value) w_22 rfl rfl rfl (by kernel_rfl) ?_
                    refine y_nil ?_
                    refine y_then (hK16 _ _ ?_)
                    refine y_cond_f rfl rfl ?_
                    refine y_skip ?_
                    refine y_then (hK15 _ _ ?_)
                    refine y_seq fun K69 hK69 => ?_
                    refine y_seq fun K70 hK70 => ?_
                    refine y_region ?_
                    refine y_k (.int .i64 0 : Value) w_22 rfl rfl rfl (by kernel_rfl) ?_
                    refine y_nil ?_
                    refine y_then (hK70 _ _ ?_)
                    refine y_block ?_
                    refine y_loop (S := Int) (fun s j => match s with | (i15_48) => upd (upd (upd (upd (upd (upd (j) 0 (.slice b0_1.a b0_1.n b0_1.c : Value)) 7 (.string t34_8 : Value)) 9 (.slice t40_12.a t40_12.n t40_12.c : Value)) 11 (.slice t45_15.a t45_15.n t45_15.c : Value)) 13 (.slice t50_18.a t50_18.n t50_18.c : Value)) 15 (.int .i64 i15_48 : Value)) (0) ?_ h ?_
                    · dsimp only
                      refine upd_id ?_ rfl
                      refine upd_id ?_ rfl
                      refine upd_id ?_ rfl
                      refine upd_id ?_ rfl
                      refine upd_id ?_ rfl
                      refine upd_id ?_ rfl
                      rfl
                    rintro KN73 next72 hN73 i15_48 j w_49 h
                    unfold F9_l4 at h
                    refine y_seq fun K74 hK74 => ?_
                    refine y_seq fun K75 hK75 => ?_
                    refine y_region ?_
                    refine y_k (.int .i64 i15_48 : Value) w_49 rfl rfl rfl (by kernel_rfl) ?_
                    refine y_k (.slice t40_12.a t40_12.n t40_12.c : Value) w_49 rfl rfl rfl (by kernel_rfl) ?_
                    refine y_k (.int .i64 ((t40_12.n : Int)) : Value) w_49 rfl rfl rfl (by kernel_rfl) ?_
                    refine y_k (.bool (decide (i15_48 < ((t40_12.n : Int)))) : Value) w_49 rfl rfl rfl (by kernel_rfl) ?_
                    refine y_nil ?_
                    refine y_then (hK75 _ _ ?_)
                    refine y_cond (decide (i15_48 < ((t40_12.n : Int)))) rfl rfl (fun hb99 => ?_) (fun hb99 => ?_)
                    · replace h := h.1 (of_decide_eq_true hb99)
                      refine y_skip ?_
                      refine y_then (hK74 _ _ ?_)
                      refine y_seq fun K76 hK76 => ?_
                      refine y_block ?_
                      refine y_region ?_
                      refine y_k (.slice t40_12.a t40_12.n t40_12.c : Value) w_49 rfl rfl rfl (by kernel_rfl) ?_
                      refine y_k (.int .i64 i15_48 : Value) w_49 rfl rfl rfl (by kernel_rfl) ?_
                      obtain ⟨hx78a, hx78b, a_50, hx78, h⟩ := h
                      refine y_v (v := (.pointer (some (a_50.add (Int.toNat i15_48))) : Value)) (s := Instr.indexAt 33 (.slice t40_12.a t40_12.n t40_12.c : Value) (.int .i64 i15_48 : Value)) rfl rfl rfl (by kernel_rfl) (run_ixs1 (el := 5) (by kernel_rfl) (by kernel_rfl) hx78 hx78a hx78b) ?_
                      obtain ⟨hx79, h⟩ := h
                      replace h := h _ rfl
                      refine y_u (s := Instr.storeAt 5 (.pointer (some (a_50.add (Int.toNat i15_48)))) (.int .u8 201 : Value)) rfl rfl (by kernel_rfl) (rn_store1 (by kernel_rfl) rfl hx79) ?_
                      generalize w_49.setCell (a_50.add (Int.toNat i15_48)) (.int .u8 201 : Value) = w_51 at h ⊢
                      refine y_nil ?_
                      refine e_block_n ?_
                      refine y_then (hK76 _ _ ?_)
                      refine y_region ?_
                      refine y_k (.int .i64 i15_48 : Value) w_51 rfl rfl rfl (by kernel_rfl) ?_
                      refine y_k (.int .i64 (IntKind.i64.wrap (i15_48 + 1)) : Value) w_51 rfl rfl rfl (by kernel_rfl) ?_
                      refine y_k (.int .i64 (IntKind.i64.wrap (i15_48 + 1)) : Value) w_51 rfl rfl rfl (by kernel_rfl) ?_
                      refine y_nil ?_
                      refine y_then (hN73 (IntKind.i64.wrap (i15_48 + 1)) _ _ h ?_)
                      dsimp only
                      refine upd_id ?_ rfl
                      refine upd_id ?_ rfl
                      refine upd_id ?_ rfl
                      refine upd_id ?_ rfl
                      refine upd_id ?_ rfl
                      refine upd_id ?_ rfl
                      rfl
                    · replace h := h.2 (of_decide_eq_false hb99)
                      refine y_exit ?_
                      repeat (first | refine e_then_x ?_ | refine e_block_y rfl ?_)
                      refine e_block_x ?_
                      refine y_then (hK69 _ _ ?_)
                      refine y_seq fun K80 hK80 => ?_
                      refine y_seq fun K81 hK81 => ?_
                      refine y_region ?_
                      refine y_k (.int .i64 0 : Value) w_49 rfl rfl rfl (by kernel_rfl) ?_
                      refine y_nil ?_
                      refine y_then (hK81 _ _ ?_)
                      refine y_block ?_
                      refine y_loop (S := Sl × Int) (fun s j => match s with | (x9_52, i16_53) => upd (upd (upd (upd (upd (upd (j) 0 (.slice b0_1.a b0_1.n b0_1.c : Value)) 7 (.string t34_8 : Value)) 9 (.slice x9_52.a x9_52.n x9_52.c : Value)) 11 (.slice t45_15.a t45_15.n t45_15.c : Value)) 13 (.slice t50_18.a t50_18.n t50_18.c : Value)) 16 (.int .i64 i16_53 : Value)) (t40_12, 0) ?_ h ?_
                      · dsimp only
                        refine upd_id ?_ rfl
                        refine upd_id ?_ rfl
                        refine upd_id ?_ rfl
                        refine upd_id ?_ rfl
                        refine upd_id ?_ rfl
                        refine upd_id ?_ rfl
                        rfl
                      rintro KN84 next83 hN84 ⟨x9_52, i16_53⟩ j w_54 h
                      unfold F9_l5 at h
                      refine y_seq fun K85 hK85 => ?_
                      refine y_seq fun K86 hK86 => ?_
                      refine y_region ?_
                      refine y_k (.int .i64 i16_53 : Value) w_54 rfl rfl rfl (by kernel_rfl) ?_
                      refine y_k (.bool (decide (i16_53 < 64)) : Value) w_54 rfl rfl rfl (by kernel_rfl) ?_
                      refine y_nil ?_
                      refine y_then (hK86 _ _ ?_)
                      refine y_cond (decide (i16_53 < 64)) rfl rfl (fun hb98 => ?_) (fun hb98 => ?_)
                      · replace h := h.1 (of_decide_eq_true hb98)
                        refine y_skip ?_
                        refine y_then (hK85 _ _ ?_)
                        refine y_seq fun K87 hK87 => ?_
                        refine y_block ?_
                        refine y_region ?_
                        refine y_k (.slice x9_52.a x9_52.n x9_52.c : Value) w_54 rfl rfl rfl (by kernel_rfl) ?_
                        refine y_k (.slice (some ⟨w_54.heap.size, 0, none⟩) 1 1 : Value) (w_54.alloc (.cells #[.int .u8 201] 5)) rfl rfl rfl (by kernel_rfl) ?_
                        replace h := h _ rfl
                        generalize w_54.alloc (.cells #[.int .u8 201] 5) = w_55 at h ⊢
                        obtain ⟨t112_56, w_57, hx89, h⟩ := h
                        refine y_v (s := Builtin.append_ #[33, 33] 33 #[.slice x9_52.a x9_52.n x9_52.c, .slice (some ⟨w_54.heap.size, 0, none⟩) 1 1]) rfl rfl rfl (by kernel_rfl) hx89 ?_
                        refine y_k (.slice t112_56.a t112_56.n t112_56.c : Value) w_57 rfl rfl rfl (by kernel_rfl) ?_
                        refine y_nil ?_
                        refine e_block_n ?_
                        refine y_then (hK87 _ _ ?_)
                        refine y_region ?_
                        refine y_k (.int .i64 i16_53 : Value) w_57 rfl rfl rfl (by kernel_rfl) ?_
                        refine y_k (.int .i64 (IntKind.i64.wrap (i16_53 + 1)) : Value) w_57 rfl rfl rfl (by kernel_rfl) ?_
                        refine y_k (.int .i64 (IntKind.i64.wrap (i16_53 + 1)) : Value) w_57 rfl rfl rfl (by kernel_rfl) ?_
                        refine y_nil ?_
                        refine y_then (hN84 (t112_56, IntKind.i64.wrap (i16_53 + 1)) _ _ h ?_)
                        dsimp only
                        refine upd_id ?_ rfl
                        refine upd_id ?_ rfl
                        refine upd_id ?_ rfl
                        refine upd_id ?_ rfl
                        refine upd_id ?_ rfl
                        refine upd_id ?_ rfl
                        rfl
                      · replace h := h.2 (of_decide_eq_false hb98)
                        refine y_exit ?_
                        repeat (first | refine e_then_x ?_ | refine e_block_y rfl ?_)
                        refine e_block_x ?_
                        refine y_then (hK80 _ _ ?_)
                        refine y_seq fun K90 hK90 => ?_
                        refine y_region ?_
                        refine y_k (.string t34_8 : Value) w_54 rfl rfl rfl (by kernel_rfl) ?_
                        refine y_call rfl rfl rfl (by kernel_rfl) (h.mono ?_)
                        rintro _ w_60 ⟨t115_58, t115_59, rfl, h⟩
                        refine ⟨_, rfl, ?_⟩
                        refine y_k (.tuple #[.slice t115_58.a t115_58.n t115_58.c, .bool t115_59] : Value) w_60 rfl rfl rfl (by kernel_rfl) ?_
                        refine y_k (.slice t115_58.a t115_58.n t115_58.c : Value) w_60 rfl rfl rfl (by kernel_rfl) ?_
                        refine y_k (.bool t115_59 : Value) w_60 rfl rfl rfl (by kernel_rfl) ?_
                        refine y_k (.slice t115_58.a t115_58.n t115_58.c : Value) w_60 rfl rfl rfl (by kernel_rfl) ?_
                        refine y_k (.bool t115_59 : Value) w_60 rfl rfl rfl (by kernel_rfl) ?_
                        refine y_nil ?_
                        refine y_then (hK90 _ _ ?_)
                        refine y_seq fun K91 hK91 => ?_
                        have hjK91 : ∀ (f : Fr) (t4_65 : Bool) (w_66 : World), f 4 = (.bool t4_65 : Value) → F9_j6 K t4_65 w_66 → WK K91 133 f w_66 := by
                          intro f t4_65 w_66 e4 h
                          refine y_atf (upd_id rfl e4) ?_
                          clear e4
                          unfold F9_j6 at h
                          refine hK91 _ _ ?_
                          refine y_ret ?_
                          repeat (first | refine e_then_r ?_ | refine e_block_r ?_)
                          exact (hQ0 _ _ _ (res1 (v := (.bool t4_65 : Value)) rfl rfl rfl) ⟨_, rfl, h⟩).1
                        refine y_region ?_
                        refine y_k (.slice t45_15.a t45_15.n t45_15.c : Value) w_60 rfl rfl rfl (by kernel_rfl) ?_
                        obtain ⟨t119_61, hx92, h⟩ := h
                        refine y_v (s := convert 33 9 (.slice t45_15.a t45_15.n t45_15.c : Value)) rfl rfl rfl (by kernel_rfl) (hx92) ?_
                        refine y_k (.slice t50_18.a t50_18.n t50_18.c : Value) w_60 rfl rfl rfl (by kernel_rfl) ?_
                        obtain ⟨t121_62, hx93, h⟩ := h
                        refine y_v (s := convert 33 9 (.slice t50_18.a t50_18.n t50_18.c : Value)) rfl rfl rfl (by kernel_rfl) (hx93) ?_
                        refine y_k (.bool ((t119_61.toList == t121_62.toList)) : Value) w_60 rfl rfl rfl (by kernel_rfl) ?_
                        refine y_k (.bool ((t119_61.toList == t121_62.toList)) : Value) w_60 rfl rfl rfl (by kernel_rfl) ?_
                        refine y_fork ((t119_61.toList == t121_62.toList)) (fun hb94 => ?_) (fun hb94 => ?_)
                        · replace h := h.1 (eq_of_beq hb94)
                          refine y_frame (upd_id (i := 123) (v := .bool true) rfl (congrArg Value.bool hb94)) ?_
                          refine y_gyes rfl rfl rfl ?_
                          refine y_k (.bool t115_59 : Value) w_60 rfl rfl rfl (by kernel_rfl) ?_
                          refine y_k (.bool t115_59 : Value) w_60 rfl rfl rfl (by kernel_rfl) ?_
                          refine y_k (.bool t115_59 : Value) w_60 rfl rfl rfl (by kernel_rfl) ?_
                          refine y_fork (t115_59) (fun hb95 => ?_) (fun hb95 => ?_)
                          · replace h := h.1 (hb95)
                            refine y_frame (upd_id (i := 126) (v := .bool true) rfl (congrArg Value.bool hb95)) ?_
                            refine y_gyes rfl rfl rfl ?_
                            refine y_k (.slice t115_58.a t115_58.n t115_58.c : Value) w_60 rfl rfl rfl (by kernel_rfl) ?_
                            refine y_gyes rfl rfl rfl ?_
                            obtain ⟨t128_63, hx96, h⟩ := h
                            refine y_v (s := convert 33 9 (.slice t115_58.a t115_58.n t115_58.c : Value)) rfl rfl rfl (by kernel_rfl) (hx96) ?_
                            refine y_gyes rfl rfl rfl ?_
                            refine y_k (.slice b0_1.a b0_1.n b0_1.c : Value) w_60 rfl rfl rfl (by kernel_rfl) ?_
                            refine y_gyes rfl rfl rfl ?_
                            obtain ⟨t130_64, hx97, h⟩ := h
                            refine y_v (s := convert 33 9 (.slice b0_1.a b0_1.n b0_1.c : Value)) rfl rfl rfl (by kernel_rfl) (hx97) ?_
                            refine y_gyes rfl rfl rfl ?_
                            refine y_k (.bool ((t128_63.toList == t130_64.toList)) : Value) w_60 rfl rfl rfl (by kernel_rfl) ?_
                            refine y_k (.bool ((t128_63.toList == t130_64.toList)) : Value) w_60 rfl rfl rfl (by kernel_rfl) ?_
                            refine y_k (.bool ((t128_63.toList == t130_64.toList)) : Value) w_60 rfl rfl rfl (by kernel_rfl) ?_
                            refine y_nil ?_
                            exact y_then (hjK91 _ ((t128_63.toList == t130_64.toList)) w_60 rfl h)
                          · replace h := h.2 (hb95)
                            refine y_frame (upd_id (i := 126) (v := .bool false) rfl (congrArg Value.bool hb95)) ?_
                            refine y_gno rfl rfl rfl rfl ?_
                            refine y_gno rfl rfl rfl rfl ?_
                            refine y_gno rfl rfl rfl rfl ?_
                            refine y_gno rfl rfl rfl rfl ?_
                            refine y_gno rfl rfl rfl rfl ?_
                            refine y_k (.bool false : Value) w_60 rfl rfl rfl (by kernel_rfl) ?_
                            refine y_k (.bool false : Value) w_60 rfl rfl rfl (by kernel_rfl) ?_
                            refine y_nil ?_
                            exact y_then (hjK91 _ false w_60 rfl h)
                        · replace h := h.2 (beq_eq_false_iff_ne.mp hb94)
                          refine y_frame (upd_id (i := 123) (v := .bool false) rfl (congrArg Value.bool hb94)) ?_
                          refine y_gno rfl rfl rfl rfl ?_
                          refine y_k (.bool false : Value) w_60 rfl rfl rfl (by kernel_rfl) ?_
                          refine y_k (.bool false : Value) w_60 rfl rfl rfl (by kernel_rfl) ?_
                          refine y_gno rfl rfl rfl rfl ?_
                          refine y_gno rfl rfl rfl rfl ?_
                          refine y_gno rfl rfl rfl rfl ?_
                          refine y_gno rfl rfl rfl rfl ?_
                          refine y_gno rfl rfl rfl rfl ?_
                          refine y_k (.bool false : Value) w_60 rfl rfl rfl (by kernel_rfl) ?_
                          refine y_k (.bool false : Value) w_60 rfl rfl rfl (by kernel_rfl) ?_
                          refine y_nil ?_
                          exact y_then (hjK91 _ false w_60 rfl h)

end Go.Proofs.Ytjgijifankaglaa
