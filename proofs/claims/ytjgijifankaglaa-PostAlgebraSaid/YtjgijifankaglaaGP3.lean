/- Printed by gen.py (own program, wip/): for each Go function a predicate transformer and its soundness. -/
import Derived.Test.YtjgijifankaglaaProg
import Derived.Test.YtjgijifankaglaaST
namespace Go.Proofs.Ytjgijifankaglaa
open Go Go.RowKit Go.Proofs.Ytjgijifankaglaa.SX
set_option linter.unusedVariables false

def F3_j3 (n2_3 : Int) (K : Bool → World → Prop) (t28_6 : Sl) (t30_8 : Sl) (t32_10 : Sl) (t34_12 : Sl) (i10_14 : Int) (next10 : (Int) → World → Prop) (t41_16 : Sl) (t44_18 : Sl) (t47_20 : Sl) (t51_22 : Sl) (t57_25 : Sl) (sets22_46 : Bool) (more23_54 : Bool) (w_55 : World) : Prop :=
  ((sets22_46 = false →
  K false w_55) ∧
  (sets22_46 = true →
  ((more23_54 = false →
  K false w_55) ∧
  (more23_54 = true →
  Calls Try.prog 27 #[.slice t32_10.a t32_10.n t32_10.c, .int .u32 n2_3] w_55 fun e w_57 => ∃ (t118_56 : Bool), e = .returned (.bool t118_56 : Value) ∧
  Calls Try.prog 28 #[.slice t28_6.a t28_6.n t28_6.c, .int .u32 n2_3] w_57 fun e w_59 => ∃ (t121_58 : Bool), e = .returned (.bool t121_58 : Value) ∧
  ∃ (t122_60 : Bool), (do eqGuard .neq 4 (Operand.tmp 118) (Operand.tmp 121) (.bool t118_56 : Value) (.bool t121_58 : Value); binOp .neq 4 (.bool t118_56 : Value) (.bool t121_58 : Value)).run Try.prog w_59 = .ok (.bool t122_60 : Value) w_59 ∧
  ((t122_60 = true →
  K false w_59) ∧
  (t122_60 = false →
  Calls Try.prog 29 #[.slice t41_16.a t41_16.n t41_16.c] w_59 fun e w_61 => e = .returned (.tuple #[] : Value) ∧
  Calls Try.prog 29 #[.slice t44_18.a t44_18.n t44_18.c] w_61 fun e w_62 => e = .returned (.tuple #[] : Value) ∧
  Calls Try.prog 29 #[.slice t47_20.a t47_20.n t47_20.c] w_62 fun e w_63 => e = .returned (.tuple #[] : Value) ∧
  Calls Try.prog 29 #[.slice t51_22.a t51_22.n t51_22.c] w_63 fun e w_64 => e = .returned (.tuple #[] : Value) ∧
  Calls Try.prog 29 #[.slice t57_25.a t57_25.n t57_25.c] w_64 fun e w_65 => e = .returned (.tuple #[] : Value) ∧
  Calls Try.prog 30 #[.slice t32_10.a t32_10.n t32_10.c, .slice t28_6.a t28_6.n t28_6.c] w_65 fun e w_67 => ∃ (t136_66 : Bool), e = .returned (.bool t136_66 : Value) ∧
  Calls Try.prog 30 #[.slice t34_12.a t34_12.n t34_12.c, .slice t30_8.a t30_8.n t30_8.c] w_67 fun e w_69 => ∃ (t139_68 : Bool), e = .returned (.bool t139_68 : Value) ∧
  ((t136_66 = false →
  K false w_69) ∧
  (t136_66 = true →
  ((t139_68 = false →
  K false w_69) ∧
  (t139_68 = true →
  next10 (IntKind.i64.wrap (i10_14 + 1)) w_69))))))))))
def F3_j2 (n2_3 : Int) (K : Bool → World → Prop) (t28_6 : Sl) (t30_8 : Sl) (t32_10 : Sl) (t34_12 : Sl) (i10_14 : Int) (next10 : (Int) → World → Prop) (t41_16 : Sl) (t44_18 : Sl) (t47_20 : Sl) (t51_22 : Sl) (t51_23 : Bool) (t57_25 : Sl) (t57_26 : Bool) (t63_28 : Sl) (t63_29 : Bool) (t69_31 : Sl) (t69_32 : Bool) (sets22_46 : Bool) (w_47 : World) : Prop :=
  Calls Try.prog 23 #[.slice t51_22.a t51_22.n t51_22.c, .slice t63_28.a t63_28.n t63_28.c] w_47 fun e w_49 => ∃ (t93_48 : Bool), e = .returned (.bool t93_48 : Value) ∧
  ((t93_48 = true →
  Calls Try.prog 23 #[.slice t57_25.a t57_25.n t57_25.c, .slice t69_31.a t69_31.n t69_31.c] w_49 fun e w_51 => ∃ (t97_50 : Bool), e = .returned (.bool t97_50 : Value) ∧
  ((t97_50 = true →
  ∃ (t102_52 : Bool), (do eqGuard .eql 4 (Operand.tmp 100) (Operand.tmp 101) (.bool t51_23 : Value) (.bool t63_29 : Value); binOp .eql 4 (.bool t51_23 : Value) (.bool t63_29 : Value)).run Try.prog w_51 = .ok (.bool t102_52 : Value) w_51 ∧
  ((t102_52 = true →
  ∃ (t107_53 : Bool), (do eqGuard .eql 4 (Operand.tmp 105) (Operand.tmp 106) (.bool t57_26 : Value) (.bool t69_32 : Value); binOp .eql 4 (.bool t57_26 : Value) (.bool t69_32 : Value)).run Try.prog w_51 = .ok (.bool t107_53 : Value) w_51 ∧
  F3_j3 n2_3 K t28_6 t30_8 t32_10 t34_12 i10_14 next10 t41_16 t44_18 t47_20 t51_22 t57_25 sets22_46 t107_53 w_51) ∧
  (t102_52 = false →
  F3_j3 n2_3 K t28_6 t30_8 t32_10 t34_12 i10_14 next10 t41_16 t44_18 t47_20 t51_22 t57_25 sets22_46 false w_51))) ∧
  (t97_50 = false →
  F3_j3 n2_3 K t28_6 t30_8 t32_10 t34_12 i10_14 next10 t41_16 t44_18 t47_20 t51_22 t57_25 sets22_46 false w_51))) ∧
  (t93_48 = false →
  F3_j3 n2_3 K t28_6 t30_8 t32_10 t34_12 i10_14 next10 t41_16 t44_18 t47_20 t51_22 t57_25 sets22_46 false w_49))
def F3_l1 (n2_3 : Int) (K : Bool → World → Prop) (t26_4 : Bool) (t28_6 : Sl) (t30_8 : Sl) (t32_10 : Sl) (t34_12 : Sl) (next10 : (Int) → World → Prop) : (Int) → World → Prop := fun (i10_14) w_15 =>
  ((i10_14 < 2 →
  Calls Try.prog 16 #[.slice t32_10.a t32_10.n t32_10.c, .slice t34_12.a t34_12.n t34_12.c] w_15 fun e w_17 => ∃ (t41_16 : Sl), e = .returned (.slice t41_16.a t41_16.n t41_16.c : Value) ∧
  Calls Try.prog 17 #[.slice t32_10.a t32_10.n t32_10.c, .slice t34_12.a t34_12.n t34_12.c] w_17 fun e w_19 => ∃ (t44_18 : Sl), e = .returned (.slice t44_18.a t44_18.n t44_18.c : Value) ∧
  Calls Try.prog 18 #[.slice t32_10.a t32_10.n t32_10.c, .slice t34_12.a t34_12.n t34_12.c] w_19 fun e w_21 => ∃ (t47_20 : Sl), e = .returned (.slice t47_20.a t47_20.n t47_20.c : Value) ∧
  Calls Try.prog 19 #[.slice t32_10.a t32_10.n t32_10.c, .int .u32 n2_3] w_21 fun e w_24 => ∃ (t51_22 : Sl), ∃ (t51_23 : Bool), e = .returned (.tuple #[.slice t51_22.a t51_22.n t51_22.c, .bool t51_23] : Value) ∧
  Calls Try.prog 20 #[.slice t32_10.a t32_10.n t32_10.c, .int .u32 n2_3] w_24 fun e w_27 => ∃ (t57_25 : Sl), ∃ (t57_26 : Bool), e = .returned (.tuple #[.slice t57_25.a t57_25.n t57_25.c, .bool t57_26] : Value) ∧
  Calls Try.prog 21 #[.slice t28_6.a t28_6.n t28_6.c, .int .u32 n2_3] w_27 fun e w_30 => ∃ (t63_28 : Sl), ∃ (t63_29 : Bool), e = .returned (.tuple #[.slice t63_28.a t63_28.n t63_28.c, .bool t63_29] : Value) ∧
  Calls Try.prog 22 #[.slice t28_6.a t28_6.n t28_6.c, .int .u32 n2_3] w_30 fun e w_33 => ∃ (t69_31 : Sl), ∃ (t69_32 : Bool), e = .returned (.tuple #[.slice t69_31.a t69_31.n t69_31.c, .bool t69_32] : Value) ∧
  Calls Try.prog 24 #[.slice t28_6.a t28_6.n t28_6.c, .slice t30_8.a t30_8.n t30_8.c] w_33 fun e w_35 => ∃ (t75_34 : Sl), e = .returned (.slice t75_34.a t75_34.n t75_34.c : Value) ∧
  Calls Try.prog 23 #[.slice t41_16.a t41_16.n t41_16.c, .slice t75_34.a t75_34.n t75_34.c] w_35 fun e w_37 => ∃ (t76_36 : Bool), e = .returned (.bool t76_36 : Value) ∧
  ((t76_36 = true →
  Calls Try.prog 25 #[.slice t28_6.a t28_6.n t28_6.c, .slice t30_8.a t30_8.n t30_8.c] w_37 fun e w_39 => ∃ (t81_38 : Sl), e = .returned (.slice t81_38.a t81_38.n t81_38.c : Value) ∧
  Calls Try.prog 23 #[.slice t44_18.a t44_18.n t44_18.c, .slice t81_38.a t81_38.n t81_38.c] w_39 fun e w_41 => ∃ (t82_40 : Bool), e = .returned (.bool t82_40 : Value) ∧
  ((t82_40 = true →
  Calls Try.prog 26 #[.slice t28_6.a t28_6.n t28_6.c, .slice t30_8.a t30_8.n t30_8.c] w_41 fun e w_43 => ∃ (t88_42 : Sl), e = .returned (.slice t88_42.a t88_42.n t88_42.c : Value) ∧
  Calls Try.prog 23 #[.slice t47_20.a t47_20.n t47_20.c, .slice t88_42.a t88_42.n t88_42.c] w_43 fun e w_45 => ∃ (t89_44 : Bool), e = .returned (.bool t89_44 : Value) ∧
  F3_j2 n2_3 K t28_6 t30_8 t32_10 t34_12 i10_14 next10 t41_16 t44_18 t47_20 t51_22 t51_23 t57_25 t57_26 t63_28 t63_29 t69_31 t69_32 t89_44 w_45) ∧
  (t82_40 = false →
  F3_j2 n2_3 K t28_6 t30_8 t32_10 t34_12 i10_14 next10 t41_16 t44_18 t47_20 t51_22 t51_23 t57_25 t57_26 t63_28 t63_29 t69_31 t69_32 false w_41))) ∧
  (t76_36 = false →
  F3_j2 n2_3 K t28_6 t30_8 t32_10 t34_12 i10_14 next10 t41_16 t44_18 t47_20 t51_22 t51_23 t57_25 t57_26 t63_28 t63_29 t69_31 t69_32 false w_37))) ∧
  (¬ (i10_14 < 2) →
  K t26_4 w_15))
/-- turnkey/turnkeylaw12.PostSets -/
def F3 (a0_1 : Sl) (b1_2 : Sl) (n2_3 : Int) (K : Bool → World → Prop) (w : World) : Prop :=
  Calls Try.prog 13 #[] w fun e w_5 => ∃ (t26_4 : Bool), e = .returned (.bool t26_4 : Value) ∧
  Calls Try.prog 14 #[.slice a0_1.a a0_1.n a0_1.c] w_5 fun e w_7 => ∃ (t28_6 : Sl), e = .returned (.slice t28_6.a t28_6.n t28_6.c : Value) ∧
  Calls Try.prog 14 #[.slice b1_2.a b1_2.n b1_2.c] w_7 fun e w_9 => ∃ (t30_8 : Sl), e = .returned (.slice t30_8.a t30_8.n t30_8.c : Value) ∧
  Calls Try.prog 15 #[.slice t28_6.a t28_6.n t28_6.c] w_9 fun e w_11 => ∃ (t32_10 : Sl), e = .returned (.slice t32_10.a t32_10.n t32_10.c : Value) ∧
  Calls Try.prog 15 #[.slice t30_8.a t30_8.n t30_8.c] w_11 fun e w_13 => ∃ (t34_12 : Sl), e = .returned (.slice t34_12.a t34_12.n t34_12.c : Value) ∧
  kLoop (F3_l1 n2_3 K t26_4 t28_6 t30_8 t32_10 t34_12) (0) w_13
set_option maxHeartbeats 4000000 in
set_option maxRecDepth 20000 in
theorem F3_sound (a0_1 : Sl) (b1_2 : Sl) (n2_3 : Int) (K : Bool → World → Prop) (w : World) (h : F3 a0_1 b1_2 n2_3 K w) :
    Calls Try.prog 3 #[.slice a0_1.a a0_1.n a0_1.c, .slice b1_2.a b1_2.n b1_2.c, .int .u32 n2_3] w (fun e w1 => ∃ (r0 : Bool), e = .returned (.bool r0 : Value) ∧ K r0 w1) := by
  unfold F3 at h
  refine y_enter (n := 147) (args := [.slice a0_1.a a0_1.n a0_1.c, .slice b1_2.a b1_2.n b1_2.c, .int .u32 n2_3]) Try.func3 rfl rfl rfl fun Q0 hQ0 => ?_
  refine y_seq fun K1 hK1 => ?_
  refine y_region ?_
  refine y_k (.bool false : Value) w rfl rfl rfl (by kernel_rfl) ?_
  refine y_nil ?_
  refine y_then (hK1 _ _ ?_)
  refine y_seq fun K2 hK2 => ?_
  refine y_region ?_
  refine y_call rfl rfl rfl (by kernel_rfl) (h.mono ?_)
  rintro _ w_5 ⟨t26_4, rfl, h⟩
  refine ⟨_, rfl, ?_⟩
  refine y_k (.bool t26_4 : Value) w_5 rfl rfl rfl (by kernel_rfl) ?_
  refine y_nil ?_
  refine y_then (hK2 _ _ ?_)
  refine y_seq fun K3 hK3 => ?_
  refine y_region ?_
  refine y_k (.slice a0_1.a a0_1.n a0_1.c : Value) w_5 rfl rfl rfl (by kernel_rfl) ?_
  refine y_call rfl rfl rfl (by kernel_rfl) (h.mono ?_)
  rintro _ w_7 ⟨t28_6, rfl, h⟩
  refine ⟨_, rfl, ?_⟩
  refine y_k (.slice t28_6.a t28_6.n t28_6.c : Value) w_7 rfl rfl rfl (by kernel_rfl) ?_
  refine y_nil ?_
  refine y_then (hK3 _ _ ?_)
  refine y_seq fun K4 hK4 => ?_
  refine y_region ?_
  refine y_k (.slice b1_2.a b1_2.n b1_2.c : Value) w_7 rfl rfl rfl (by kernel_rfl) ?_
  refine y_call rfl rfl rfl (by kernel_rfl) (h.mono ?_)
  rintro _ w_9 ⟨t30_8, rfl, h⟩
  refine ⟨_, rfl, ?_⟩
  refine y_k (.slice t30_8.a t30_8.n t30_8.c : Value) w_9 rfl rfl rfl (by kernel_rfl) ?_
  refine y_nil ?_
  refine y_then (hK4 _ _ ?_)
  refine y_seq fun K5 hK5 => ?_
  refine y_region ?_
  refine y_k (.slice t28_6.a t28_6.n t28_6.c : Value) w_9 rfl rfl rfl (by kernel_rfl) ?_
  refine y_call rfl rfl rfl (by kernel_rfl) (h.mono ?_)
  rintro _ w_11 ⟨t32_10, rfl, h⟩
  refine ⟨_, rfl, ?_⟩
  refine y_k (.slice t32_10.a t32_10.n t32_10.c : Value) w_11 rfl rfl rfl (by kernel_rfl) ?_
  refine y_nil ?_
  refine y_then (hK5 _ _ ?_)
  refine y_seq fun K6 hK6 => ?_
  refine y_region ?_
  refine y_k (.slice t30_8.a t30_8.n t30_8.c : Value) w_11 rfl rfl rfl (by kernel_rfl) ?_
  refine y_call rfl rfl rfl (by kernel_rfl) (h.mono ?_)
  rintro _ w_13 ⟨t34_12, rfl, h⟩
  refine ⟨_, rfl, ?_⟩
  refine y_k (.slice t34_12.a t34_12.n t34_12.c : Value) w_13 rfl rfl rfl (by kernel_rfl) ?_
  refine y_nil ?_
  refine y_then (hK6 _ _ ?_)
  refine y_seq fun K7 hK7 => ?_
  refine y_seq fun K8 hK8 => ?_
  refine y_region ?_
  refine y_k (.int .i64 0 : Value) w_13 rfl rfl rfl (by kernel_rfl) ?_
  refine y_nil ?_
  refine y_then (hK8 _ _ ?_)
  refine y_block ?_
  refine y_loop (S := Int) (fun s j => match s with | (i10_14) => upd (upd (upd (upd (upd (upd (upd (j) 0 (.slice t28_6.a t28_6.n t28_6.c : Value)) 1 (.slice t30_8.a t30_8.n t30_8.c : Value)) 2 (.int .u32 n2_3 : Value)) 7 (.bool t26_4 : Value)) 8 (.slice t32_10.a t32_10.n t32_10.c : Value)) 9 (.slice t34_12.a t34_12.n t34_12.c : Value)) 10 (.int .i64 i10_14 : Value)) (0) ?_ h ?_
  · dsimp only
    refine upd_id ?_ rfl
    refine upd_id ?_ rfl
    refine upd_id ?_ rfl
    refine upd_id ?_ rfl
    refine upd_id ?_ rfl
    refine upd_id ?_ rfl
    refine upd_id ?_ rfl
    rfl
  rintro KN11 next10 hN11 i10_14 j w_15 h
  unfold F3_l1 at h
  refine y_seq fun K12 hK12 => ?_
  refine y_seq fun K13 hK13 => ?_
  refine y_region ?_
  refine y_k (.int .i64 i10_14 : Value) w_15 rfl rfl rfl (by kernel_rfl) ?_
  refine y_k (.bool (decide (i10_14 < 2)) : Value) w_15 rfl rfl rfl (by kernel_rfl) ?_
  refine y_nil ?_
  refine y_then (hK13 _ _ ?_)
  refine y_cond (decide (i10_14 < 2)) rfl rfl (fun hb54 => ?_) (fun hb54 => ?_)
  · replace h := h.1 (of_decide_eq_true hb54)
    refine y_skip ?_
    refine y_then (hK12 _ _ ?_)
    refine y_seq fun K14 hK14 => ?_
    refine y_block ?_
    refine y_seq fun K16 hK16 => ?_
    refine y_region ?_
    refine y_k (.slice t32_10.a t32_10.n t32_10.c : Value) w_15 rfl rfl rfl (by kernel_rfl) ?_
    refine y_k (.slice t34_12.a t34_12.n t34_12.c : Value) w_15 rfl rfl rfl (by kernel_rfl) ?_
    refine y_call rfl rfl rfl (by kernel_rfl) (h.mono ?_)
    rintro _ w_17 ⟨t41_16, rfl, h⟩
    refine ⟨_, rfl, ?_⟩
    refine y_k (.slice t41_16.a t41_16.n t41_16.c : Value) w_17 rfl rfl rfl (by kernel_rfl) ?_
    refine y_nil ?_
    refine y_then (hK16 _ _ ?_)
    refine y_seq fun K17 hK17 => ?_
    refine y_region ?_
    refine y_k (.slice t32_10.a t32_10.n t32_10.c : Value) w_17 rfl rfl rfl (by kernel_rfl) ?_
    refine y_k (.slice t34_12.a t34_12.n t34_12.c : Value) w_17 rfl rfl rfl (by kernel_rfl) ?_
    refine y_call rfl rfl rfl (by kernel_rfl) (h.mono ?_)
    rintro _ w_19 ⟨t44_18, rfl, h⟩
    refine ⟨_, rfl, ?_⟩
    refine y_k (.slice t44_18.a t44_18.n t44_18.c : Value) w_19 rfl rfl rfl (by kernel_rfl) ?_
    refine y_nil ?_
    refine y_then (hK17 _ _ ?_)
    refine y_seq fun K18 hK18 => ?_
    refine y_region ?_
    refine y_k (.slice t32_10.a t32_10.n t32_10.c : Value) w_19 rfl rfl rfl (by kernel_rfl) ?_
    refine y_k (.slice t34_12.a t34_12.n t34_12.c : Value) w_19 rfl rfl rfl (by kernel_rfl) ?_
    refine y_call rfl rfl rfl (by kernel_rfl) (h.mono ?_)
    rintro _ w_21 ⟨t47_20, rfl, h⟩
    refine ⟨_, rfl, ?_⟩
    refine y_k (.slice t47_20.a t47_20.n t47_20.c : Value) w_21 rfl rfl rfl (by kernel_rfl) ?_
    refine y_nil ?_
    refine y_then (hK18 _ _ ?_)
    refine y_seq fun K19 hK19 => ?_
    refine y_region ?_
    refine y_k (.slice t32_10.a t32_10.n t32_10.c : Value) w_21 rfl rfl rfl (by kernel_rfl) ?_
    refine y_k (.int .u32 n2_3 : Value) w_21 rfl rfl rfl (by kernel_rfl) ?_
    refine y_call rfl rfl rfl (by kernel_rfl) (h.mono ?_)
    rintro _ w_24 ⟨t51_22, t51_23, rfl, h⟩
    refine ⟨_, rfl, ?_⟩
    refine y_k (.tuple #[.slice t51_22.a t51_22.n t51_22.c, .bool t51_23] : Value) w_24 rfl rfl rfl (by kernel_rfl) ?_
    refine y_k (.slice t51_22.a t51_22.n t51_22.c : Value) w_24 rfl rfl rfl (by kernel_rfl) ?_
    refine y_k (.bool t51_23 : Value) w_24 rfl rfl rfl (by kernel_rfl) ?_
    refine y_k (.slice t51_22.a t51_22.n t51_22.c : Value) w_24 rfl rfl rfl (by kernel_rfl) ?_
    refine y_k (.bool t51_23 : Value) w_24 rfl rfl rfl (by kernel_rfl) ?_
    refine y_nil ?_
    refine y_then (hK19 _ _ ?_)
    refine y_seq fun K20 hK20 => ?_
    refine y_region ?_
    refine y_k (.slice t32_10.a t32_10.n t32_10.c : Value) w_24 rfl rfl rfl (by kernel_rfl) ?_
    refine y_k (.int .u32 n2_3 : Value) w_24 rfl rfl rfl (by kernel_rfl) ?_
    refine y_call rfl rfl rfl (by kernel_rfl) (h.mono ?_)
    rintro _ w_27 ⟨t57_25, t57_26, rfl, h⟩
    refine ⟨_, rfl, ?_⟩
    refine y_k (.tuple #[.slice t57_25.a t57_25.n t57_25.c, .bool t57_26] : Value) w_27 rfl rfl rfl (by kernel_rfl) ?_
    refine y_k (.slice t57_25.a t57_25.n t57_25.c : Value) w_27 rfl rfl rfl (by kernel_rfl) ?_
    refine y_k (.bool t57_26 : Value) w_27 rfl rfl rfl (by kernel_rfl) ?_
    refine y_k (.slice t57_25.a t57_25.n t57_25.c : Value) w_27 rfl rfl rfl (by kernel_rfl) ?_
    refine y_k (.bool t57_26 : Value) w_27 rfl rfl rfl (by kernel_rfl) ?_
    refine y_nil ?_
    refine y_then (hK20 _ _ ?_)
    refine y_seq fun K21 hK21 => ?_
    refine y_region ?_
    refine y_k (.slice t28_6.a t28_6.n t28_6.c : Value) w_27 rfl rfl rfl (by kernel_rfl) ?_
    refine y_k (.int .u32 n2_3 : Value) w_27 rfl rfl rfl (by kernel_rfl) ?_
    refine y_call rfl rfl rfl (by kernel_rfl) (h.mono ?_)
    rintro _ w_30 ⟨t63_28, t63_29, rfl, h⟩
    refine ⟨_, rfl, ?_⟩
    refine y_k (.tuple #[.slice t63_28.a t63_28.n t63_28.c, .bool t63_29] : Value) w_30 rfl rfl rfl (by kernel_rfl) ?_
    refine y_k (.slice t63_28.a t63_28.n t63_28.c : Value) w_30 rfl rfl rfl (by kernel_rfl) ?_
    refine y_k (.bool t63_29 : Value) w_30 rfl rfl rfl (by kernel_rfl) ?_
    refine y_k (.slice t63_28.a t63_28.n t63_28.c : Value) w_30 rfl rfl rfl (by kernel_rfl) ?_
    refine y_k (.bool t63_29 : Value) w_30 rfl rfl rfl (by kernel_rfl) ?_
    refine y_nil ?_
    refine y_then (hK21 _ _ ?_)
    refine y_seq fun K22 hK22 => ?_
    refine y_region ?_
    refine y_k (.slice t28_6.a t28_6.n t28_6.c : Value) w_30 rfl rfl rfl (by kernel_rfl) ?_
    refine y_k (.int .u32 n2_3 : Value) w_30 rfl rfl rfl (by kernel_rfl) ?_
    refine y_call rfl rfl rfl (by kernel_rfl) (h.mono ?_)
    rintro _ w_33 ⟨t69_31, t69_32, rfl, h⟩
    refine ⟨_, rfl, ?_⟩
    refine y_k (.tuple #[.slice t69_31.a t69_31.n t69_31.c, .bool t69_32] : Value) w_33 rfl rfl rfl (by kernel_rfl) ?_
    refine y_k (.slice t69_31.a t69_31.n t69_31.c : Value) w_33 rfl rfl rfl (by kernel_rfl) ?_
    refine y_k (.bool t69_32 : Value) w_33 rfl rfl rfl (by kernel_rfl) ?_
    refine y_k (.slice t69_31.a t69_31.n t69_31.c : Value) w_33 rfl rfl rfl (by kernel_rfl) ?_
    refine y_k (.bool t69_32 : Value) w_33 rfl rfl rfl (by kernel_rfl) ?_
    refine y_nil ?_
    refine y_then (hK22 _ _ ?_)
    refine y_seq fun K23 hK23 => ?_
    have hjK23 : ∀ (f : Fr) (sets22_46 : Bool) (w_47 : World), f 0 = (.slice t28_6.a t28_6.n t28_6.c : Value) → f 1 = (.slice t30_8.a t30_8.n t30_8.c : Value) → f 2 = (.int .u32 n2_3 : Value) → f 7 = (.bool t26_4 : Value) → f 8 = (.slice t32_10.a t32_10.n t32_10.c : Value) → f 9 = (.slice t34_12.a t34_12.n t34_12.c : Value) → f 10 = (.int .i64 i10_14 : Value) → f 11 = (.slice t41_16.a t41_16.n t41_16.c : Value) → f 12 = (.slice t44_18.a t44_18.n t44_18.c : Value) → f 13 = (.slice t47_20.a t47_20.n t47_20.c : Value) → f 14 = (.slice t51_22.a t51_22.n t51_22.c : Value) → f 15 = (.bool t51_23 : Value) → f 16 = (.slice t57_25.a t57_25.n t57_25.c : Value) → f 17 = (.bool t57_26 : Value) → f 18 = (.slice t63_28.a t63_28.n t63_28.c : Value) → f 19 = (.bool t63_29 : Value) → f 20 = (.slice t69_31.a t69_31.n t69_31.c : Value) → f 21 = (.bool t69_32 : Value) → f 22 = (.bool sets22_46 : Value) → F3_j2 n2_3 K t28_6 t30_8 t32_10 t34_12 i10_14 next10 t41_16 t44_18 t47_20 t51_22 t51_23 t57_25 t57_26 t63_28 t63_29 t69_31 t69_32 sets22_46 w_47 → WK K23 147 f w_47 := by
      intro f sets22_46 w_47 e0 e1 e2 e7 e8 e9 e10 e11 e12 e13 e14 e15 e16 e17 e18 e19 e20 e21 e22 h
      refine y_atf (upd_id (upd_id (upd_id (upd_id (upd_id (upd_id (upd_id (upd_id (upd_id (upd_id (upd_id (upd_id (upd_id (upd_id (upd_id (upd_id (upd_id (upd_id (upd_id rfl e0) e1) e2) e7) e8) e9) e10) e11) e12) e13) e14) e15) e16) e17) e18) e19) e20) e21) e22) ?_
      clear e0 e1 e2 e7 e8 e9 e10 e11 e12 e13 e14 e15 e16 e17 e18 e19 e20 e21 e22
      unfold F3_j2 at h
      refine hK23 _ _ ?_
      refine y_seq fun K26 hK26 => ?_
      have hjK26 : ∀ (f : Fr) (more23_54 : Bool) (w_55 : World), f 0 = (.slice t28_6.a t28_6.n t28_6.c : Value) → f 1 = (.slice t30_8.a t30_8.n t30_8.c : Value) → f 2 = (.int .u32 n2_3 : Value) → f 7 = (.bool t26_4 : Value) → f 8 = (.slice t32_10.a t32_10.n t32_10.c : Value) → f 9 = (.slice t34_12.a t34_12.n t34_12.c : Value) → f 10 = (.int .i64 i10_14 : Value) → f 11 = (.slice t41_16.a t41_16.n t41_16.c : Value) → f 12 = (.slice t44_18.a t44_18.n t44_18.c : Value) → f 13 = (.slice t47_20.a t47_20.n t47_20.c : Value) → f 14 = (.slice t51_22.a t51_22.n t51_22.c : Value) → f 16 = (.slice t57_25.a t57_25.n t57_25.c : Value) → f 22 = (.bool sets22_46 : Value) → f 23 = (.bool more23_54 : Value) → F3_j3 n2_3 K t28_6 t30_8 t32_10 t34_12 i10_14 next10 t41_16 t44_18 t47_20 t51_22 t57_25 sets22_46 more23_54 w_55 → WK K26 147 f w_55 := by
        intro f more23_54 w_55 e0 e1 e2 e7 e8 e9 e10 e11 e12 e13 e14 e16 e22 e23 h
        refine y_atf (upd_id (upd_id (upd_id (upd_id (upd_id (upd_id (upd_id (upd_id (upd_id (upd_id (upd_id (upd_id (upd_id (upd_id rfl e0) e1) e2) e7) e8) e9) e10) e11) e12) e13) e14) e16) e22) e23) ?_
        clear e0 e1 e2 e7 e8 e9 e10 e11 e12 e13 e14 e16 e22 e23
        unfold F3_j3 at h
        refine hK26 _ _ ?_
        refine y_seq fun K32 hK32 => ?_
        refine y_seq fun K33 hK33 => ?_
        refine y_region ?_
        refine y_k (.bool sets22_46 : Value) w_55 rfl rfl rfl (by kernel_rfl) ?_
        refine y_k (.bool (!(sets22_46)) : Value) w_55 rfl rfl rfl (by kernel_rfl) ?_
        refine y_k (.bool (!(sets22_46)) : Value) w_55 rfl rfl rfl (by kernel_rfl) ?_
        refine y_fork (!(sets22_46)) (fun hb34 => ?_) (fun hb34 => ?_)
        · replace h := h.1 ((not_true_of hb34))
          refine y_frame (upd_id (i := 111) (v := .bool true) rfl (congrArg Value.bool hb34)) ?_
          refine y_gno rfl rfl rfl rfl ?_
          refine y_gno rfl rfl rfl rfl ?_
          refine y_k (.bool true : Value) w_55 rfl rfl rfl (by kernel_rfl) ?_
          refine y_k (.bool true : Value) w_55 rfl rfl rfl (by kernel_rfl) ?_
          refine y_gno rfl rfl rfl rfl ?_
          refine y_gno rfl rfl rfl rfl ?_
          refine y_gno rfl rfl rfl rfl ?_
          refine y_gno rfl rfl rfl rfl ?_
          refine y_gno rfl rfl rfl rfl ?_
          refine y_gno rfl rfl rfl rfl ?_
          refine y_gno rfl rfl rfl rfl ?_
          refine y_k (.bool true : Value) w_55 rfl rfl rfl (by kernel_rfl) ?_
          refine y_nil ?_
          refine y_then (hK33 _ _ ?_)
          refine y_cond_t rfl rfl ?_
          refine y_seq fun K35 hK35 => ?_
          refine y_region ?_
          refine y_k (.bool false : Value) w_55 rfl rfl rfl (by kernel_rfl) ?_
          refine y_nil ?_
          refine y_then (hK35 _ _ ?_)
          refine y_ret ?_
          repeat (first | refine e_then_r ?_ | refine e_block_r ?_)
          exact (hQ0 _ _ _ (res1 (v := (.bool false : Value)) rfl rfl rfl) ⟨_, rfl, h⟩).1
        · replace h := h.2 ((not_false_of hb34))
          refine y_frame (upd_id (i := 111) (v := .bool false) rfl (congrArg Value.bool hb34)) ?_
          refine y_gyes rfl rfl rfl ?_
          refine y_k (.bool more23_54 : Value) w_55 rfl rfl rfl (by kernel_rfl) ?_
          refine y_gyes rfl rfl rfl ?_
          refine y_k (.bool (!(more23_54)) : Value) w_55 rfl rfl rfl (by kernel_rfl) ?_
          refine y_k (.bool (!(more23_54)) : Value) w_55 rfl rfl rfl (by kernel_rfl) ?_
          refine y_k (.bool (!(more23_54)) : Value) w_55 rfl rfl rfl (by kernel_rfl) ?_
          refine y_fork (!(more23_54)) (fun hb36 => ?_) (fun hb36 => ?_)
          · replace h := h.1 ((not_true_of hb36))
            refine y_frame (upd_id (i := 115) (v := .bool true) rfl (congrArg Value.bool hb36)) ?_
            refine y_gno rfl rfl rfl rfl ?_
            refine y_gno rfl rfl rfl rfl ?_
            refine y_gno rfl rfl rfl rfl ?_
            refine y_gno rfl rfl rfl rfl ?_
            refine y_gno rfl rfl rfl rfl ?_
            refine y_gno rfl rfl rfl rfl ?_
            refine y_gno rfl rfl rfl rfl ?_
            refine y_k (.bool true : Value) w_55 rfl rfl rfl (by kernel_rfl) ?_
            refine y_nil ?_
            refine y_then (hK33 _ _ ?_)
            refine y_cond_t rfl rfl ?_
            refine y_seq fun K37 hK37 => ?_
            refine y_region ?_
            refine y_k (.bool false : Value) w_55 rfl rfl rfl (by kernel_rfl) ?_
            refine y_nil ?_
            refine y_then (hK37 _ _ ?_)
            refine y_ret ?_
            repeat (first | refine e_then_r ?_ | refine e_block_r ?_)
            exact (hQ0 _ _ _ (res1 (v := (.bool false : Value)) rfl rfl rfl) ⟨_, rfl, h⟩).1
          · replace h := h.2 ((not_false_of hb36))
            refine y_frame (upd_id (i := 115) (v := .bool false) rfl (congrArg Value.bool hb36)) ?_
            refine y_gyes rfl rfl rfl ?_
            refine y_k (.slice t32_10.a t32_10.n t32_10.c : Value) w_55 rfl rfl rfl (by kernel_rfl) ?_
            refine y_gyes rfl rfl rfl ?_
            refine y_k (.int .u32 n2_3 : Value) w_55 rfl rfl rfl (by kernel_rfl) ?_
            refine y_gyes rfl rfl rfl ?_
            refine y_call rfl rfl rfl (by kernel_rfl) (h.mono ?_)
            rintro _ w_57 ⟨t118_56, rfl, h⟩
            refine ⟨_, rfl, ?_⟩
            refine y_gyes rfl rfl rfl ?_
            refine y_k (.slice t28_6.a t28_6.n t28_6.c : Value) w_57 rfl rfl rfl (by kernel_rfl) ?_
            refine y_gyes rfl rfl rfl ?_
            refine y_k (.int .u32 n2_3 : Value) w_57 rfl rfl rfl (by kernel_rfl) ?_
            refine y_gyes rfl rfl rfl ?_
            refine y_call rfl rfl rfl (by kernel_rfl) (h.mono ?_)
            rintro _ w_59 ⟨t121_58, rfl, h⟩
            refine ⟨_, rfl, ?_⟩
            refine y_gyes rfl rfl rfl ?_
            obtain ⟨t122_60, hx38, h⟩ := h
            refine y_v (s := do eqGuard .neq 4 (Operand.tmp 118) (Operand.tmp 121) (.bool t118_56 : Value) (.bool t121_58 : Value); binOp .neq 4 (.bool t118_56 : Value) (.bool t121_58 : Value)) rfl rfl rfl (by kernel_rfl) (hx38) ?_
            refine y_k (.bool t122_60 : Value) w_59 rfl rfl rfl (by kernel_rfl) ?_
            refine y_nil ?_
            refine y_then (hK33 _ _ ?_)
            refine y_cond (t122_60) rfl rfl (fun hb52 => ?_) (fun hb52 => ?_)
            · replace h := h.1 (hb52)
              refine y_seq fun K39 hK39 => ?_
              refine y_region ?_
              refine y_k (.bool false : Value) w_59 rfl rfl rfl (by kernel_rfl) ?_
              refine y_nil ?_
              refine y_then (hK39 _ _ ?_)
              refine y_ret ?_
              repeat (first | refine e_then_r ?_ | refine e_block_r ?_)
              exact (hQ0 _ _ _ (res1 (v := (.bool false : Value)) rfl rfl rfl) ⟨_, rfl, h⟩).1
            · replace h := h.2 (hb52)
              refine y_skip ?_
              refine y_then (hK32 _ _ ?_)
              refine y_seq fun K40 hK40 => ?_
              refine y_region ?_
              refine y_k (.slice t41_16.a t41_16.n t41_16.c : Value) w_59 rfl rfl rfl (by kernel_rfl) ?_
              refine y_call rfl rfl rfl (by kernel_rfl) (h.mono ?_)
              rintro _ w_61 ⟨rfl, h⟩
              refine ⟨_, rfl, ?_⟩
              refine y_nil ?_
              refine y_then (hK40 _ _ ?_)
              refine y_seq fun K41 hK41 => ?_
              refine y_region ?_
              refine y_k (.slice t44_18.a t44_18.n t44_18.c : Value) w_61 rfl rfl rfl (by kernel_rfl) ?_
              refine y_call rfl rfl rfl (by kernel_rfl) (h.mono ?_)
              rintro _ w_62 ⟨rfl, h⟩
              refine ⟨_, rfl, ?_⟩
              refine y_nil ?_
              refine y_then (hK41 _ _ ?_)
              refine y_seq fun K42 hK42 => ?_
              refine y_region ?_
              refine y_k (.slice t47_20.a t47_20.n t47_20.c : Value) w_62 rfl rfl rfl (by kernel_rfl) ?_
              refine y_call rfl rfl rfl (by kernel_rfl) (h.mono ?_)
              rintro _ w_63 ⟨rfl, h⟩
              refine ⟨_, rfl, ?_⟩
              refine y_nil ?_
              refine y_then (hK42 _ _ ?_)
              refine y_seq fun K43 hK43 => ?_
              refine y_region ?_
              refine y_k (.slice t51_22.a t51_22.n t51_22.c : Value) w_63 rfl rfl rfl (by kernel_rfl) ?_
              refine y_call rfl rfl rfl (by kernel_rfl) (h.mono ?_)
              rintro _ w_64 ⟨rfl, h⟩
              refine ⟨_, rfl, ?_⟩
              refine y_nil ?_
              refine y_then (hK43 _ _ ?_)
              refine y_seq fun K44 hK44 => ?_
              refine y_region ?_
              refine y_k (.slice t57_25.a t57_25.n t57_25.c : Value) w_64 rfl rfl rfl (by kernel_rfl) ?_
              refine y_call rfl rfl rfl (by kernel_rfl) (h.mono ?_)
              rintro _ w_65 ⟨rfl, h⟩
              refine ⟨_, rfl, ?_⟩
              refine y_nil ?_
              refine y_then (hK44 _ _ ?_)
              refine y_seq fun K45 hK45 => ?_
              refine y_region ?_
              refine y_k (.slice t32_10.a t32_10.n t32_10.c : Value) w_65 rfl rfl rfl (by kernel_rfl) ?_
              refine y_k (.slice t28_6.a t28_6.n t28_6.c : Value) w_65 rfl rfl rfl (by kernel_rfl) ?_
              refine y_call rfl rfl rfl (by kernel_rfl) (h.mono ?_)
              rintro _ w_67 ⟨t136_66, rfl, h⟩
              refine ⟨_, rfl, ?_⟩
              refine y_k (.bool t136_66 : Value) w_67 rfl rfl rfl (by kernel_rfl) ?_
              refine y_nil ?_
              refine y_then (hK45 _ _ ?_)
              refine y_seq fun K46 hK46 => ?_
              refine y_region ?_
              refine y_k (.slice t34_12.a t34_12.n t34_12.c : Value) w_67 rfl rfl rfl (by kernel_rfl) ?_
              refine y_k (.slice t30_8.a t30_8.n t30_8.c : Value) w_67 rfl rfl rfl (by kernel_rfl) ?_
              refine y_call rfl rfl rfl (by kernel_rfl) (h.mono ?_)
              rintro _ w_69 ⟨t139_68, rfl, h⟩
              refine ⟨_, rfl, ?_⟩
              refine y_k (.bool t139_68 : Value) w_69 rfl rfl rfl (by kernel_rfl) ?_
              refine y_nil ?_
              refine y_then (hK46 _ _ ?_)
              refine y_seq fun K47 hK47 => ?_
              refine y_region ?_
              refine y_k (.bool t136_66 : Value) w_69 rfl rfl rfl (by kernel_rfl) ?_
              refine y_k (.bool (!(t136_66)) : Value) w_69 rfl rfl rfl (by kernel_rfl) ?_
              refine y_k (.bool (!(t136_66)) : Value) w_69 rfl rfl rfl (by kernel_rfl) ?_
              refine y_fork (!(t136_66)) (fun hb48 => ?_) (fun hb48 => ?_)
              · replace h := h.1 ((not_true_of hb48))
                refine y_frame (upd_id (i := 142) (v := .bool true) rfl (congrArg Value.bool hb48)) ?_
                refine y_gno rfl rfl rfl rfl ?_
                refine y_gno rfl rfl rfl rfl ?_
                refine y_k (.bool true : Value) w_69 rfl rfl rfl (by kernel_rfl) ?_
                refine y_nil ?_
                refine y_then (hK47 _ _ ?_)
                refine y_cond_t rfl rfl ?_
                refine y_seq fun K49 hK49 => ?_
                refine y_region ?_
                refine y_k (.bool false : Value) w_69 rfl rfl rfl (by kernel_rfl) ?_
                refine y_nil ?_
                refine y_then (hK49 _ _ ?_)
                refine y_ret ?_
                repeat (first | refine e_then_r ?_ | refine e_block_r ?_)
                exact (hQ0 _ _ _ (res1 (v := (.bool false : Value)) rfl rfl rfl) ⟨_, rfl, h⟩).1
              · replace h := h.2 ((not_false_of hb48))
                refine y_frame (upd_id (i := 142) (v := .bool false) rfl (congrArg Value.bool hb48)) ?_
                refine y_gyes rfl rfl rfl ?_
                refine y_k (.bool t139_68 : Value) w_69 rfl rfl rfl (by kernel_rfl) ?_
                refine y_gyes rfl rfl rfl ?_
                refine y_k (.bool (!(t139_68)) : Value) w_69 rfl rfl rfl (by kernel_rfl) ?_
                refine y_k (.bool (!(t139_68)) : Value) w_69 rfl rfl rfl (by kernel_rfl) ?_
                refine y_nil ?_
                refine y_then (hK47 _ _ ?_)
                refine y_cond (!(t139_68)) rfl rfl (fun hb51 => ?_) (fun hb51 => ?_)
                · replace h := h.1 ((not_true_of hb51))
                  refine y_seq fun K50 hK50 => ?_
                  refine y_region ?_
                  refine y_k (.bool false : Value) w_69 rfl rfl rfl (by kernel_rfl) ?_
                  refine y_nil ?_
                  refine y_then (hK50 _ _ ?_)
                  refine y_ret ?_
                  repeat (first | refine e_then_r ?_ | refine e_block_r ?_)
                  exact (hQ0 _ _ _ (res1 (v := (.bool false : Value)) rfl rfl rfl) ⟨_, rfl, h⟩).1
                · replace h := h.2 ((not_false_of hb51))
                  refine y_skip ?_
                  refine e_block_n ?_
                  refine y_then (hK14 _ _ ?_)
                  refine y_region ?_
                  refine y_k (.int .i64 i10_14 : Value) w_69 rfl rfl rfl (by kernel_rfl) ?_
                  refine y_k (.int .i64 (IntKind.i64.wrap (i10_14 + 1)) : Value) w_69 rfl rfl rfl (by kernel_rfl) ?_
                  refine y_k (.int .i64 (IntKind.i64.wrap (i10_14 + 1)) : Value) w_69 rfl rfl rfl (by kernel_rfl) ?_
                  refine y_nil ?_
                  refine y_then (hN11 (IntKind.i64.wrap (i10_14 + 1)) _ _ h ?_)
                  dsimp only
                  refine upd_id ?_ rfl
                  refine upd_id ?_ rfl
                  refine upd_id ?_ rfl
                  refine upd_id ?_ rfl
                  refine upd_id ?_ rfl
                  refine upd_id ?_ rfl
                  refine upd_id ?_ rfl
                  rfl
      refine y_region ?_
      refine y_k (.slice t51_22.a t51_22.n t51_22.c : Value) w_47 rfl rfl rfl (by kernel_rfl) ?_
      refine y_k (.slice t63_28.a t63_28.n t63_28.c : Value) w_47 rfl rfl rfl (by kernel_rfl) ?_
      refine y_call rfl rfl rfl (by kernel_rfl) (h.mono ?_)
      rintro _ w_49 ⟨t93_48, rfl, h⟩
      refine ⟨_, rfl, ?_⟩
      refine y_k (.bool t93_48 : Value) w_49 rfl rfl rfl (by kernel_rfl) ?_
      refine y_fork (t93_48) (fun hb27 => ?_) (fun hb27 => ?_)
      · replace h := h.1 (hb27)
        refine y_frame (upd_id (i := 94) (v := .bool true) rfl (congrArg Value.bool hb27)) ?_
        refine y_gyes rfl rfl rfl ?_
        refine y_k (.slice t57_25.a t57_25.n t57_25.c : Value) w_49 rfl rfl rfl (by kernel_rfl) ?_
        refine y_gyes rfl rfl rfl ?_
        refine y_k (.slice t69_31.a t69_31.n t69_31.c : Value) w_49 rfl rfl rfl (by kernel_rfl) ?_
        refine y_gyes rfl rfl rfl ?_
        refine y_call rfl rfl rfl (by kernel_rfl) (h.mono ?_)
        rintro _ w_51 ⟨t97_50, rfl, h⟩
        refine ⟨_, rfl, ?_⟩
        refine y_k (.bool t97_50 : Value) w_51 rfl rfl rfl (by kernel_rfl) ?_
        refine y_k (.bool t97_50 : Value) w_51 rfl rfl rfl (by kernel_rfl) ?_
        refine y_fork (t97_50) (fun hb28 => ?_) (fun hb28 => ?_)
        · replace h := h.1 (hb28)
          refine y_frame (upd_id (i := 99) (v := .bool true) rfl (congrArg Value.bool hb28)) ?_
          refine y_gyes rfl rfl rfl ?_
          refine y_k (.bool t51_23 : Value) w_51 rfl rfl rfl (by kernel_rfl) ?_
          refine y_gyes rfl rfl rfl ?_
          refine y_k (.bool t63_29 : Value) w_51 rfl rfl rfl (by kernel_rfl) ?_
          refine y_gyes rfl rfl rfl ?_
          obtain ⟨t102_52, hx29, h⟩ := h
          refine y_v (s := do eqGuard .eql 4 (Operand.tmp 100) (Operand.tmp 101) (.bool t51_23 : Value) (.bool t63_29 : Value); binOp .eql 4 (.bool t51_23 : Value) (.bool t63_29 : Value)) rfl rfl rfl (by kernel_rfl) (hx29) ?_
          refine y_k (.bool t102_52 : Value) w_51 rfl rfl rfl (by kernel_rfl) ?_
          refine y_k (.bool t102_52 : Value) w_51 rfl rfl rfl (by kernel_rfl) ?_
          refine y_fork (t102_52) (fun hb30 => ?_) (fun hb30 => ?_)
          · replace h := h.1 (hb30)
            refine y_frame (upd_id (i := 104) (v := .bool true) rfl (congrArg Value.bool hb30)) ?_
            refine y_gyes rfl rfl rfl ?_
            refine y_k (.bool t57_26 : Value) w_51 rfl rfl rfl (by kernel_rfl) ?_
            refine y_gyes rfl rfl rfl ?_
            refine y_k (.bool t69_32 : Value) w_51 rfl rfl rfl (by kernel_rfl) ?_
            refine y_gyes rfl rfl rfl ?_
            obtain ⟨t107_53, hx31, h⟩ := h
            refine y_v (s := do eqGuard .eql 4 (Operand.tmp 105) (Operand.tmp 106) (.bool t57_26 : Value) (.bool t69_32 : Value); binOp .eql 4 (.bool t57_26 : Value) (.bool t69_32 : Value)) rfl rfl rfl (by kernel_rfl) (hx31) ?_
            refine y_k (.bool t107_53 : Value) w_51 rfl rfl rfl (by kernel_rfl) ?_
            refine y_k (.bool t107_53 : Value) w_51 rfl rfl rfl (by kernel_rfl) ?_
            refine y_nil ?_
            exact y_then (hjK26 _ t107_53 w_51 rfl rfl rfl rfl rfl rfl rfl rfl rfl rfl rfl rfl rfl rfl h)
          · replace h := h.2 (hb30)
            refine y_frame (upd_id (i := 104) (v := .bool false) rfl (congrArg Value.bool hb30)) ?_
            refine y_gno rfl rfl rfl rfl ?_
            refine y_gno rfl rfl rfl rfl ?_
            refine y_gno rfl rfl rfl rfl ?_
            refine y_k (.bool false : Value) w_51 rfl rfl rfl (by kernel_rfl) ?_
            refine y_k (.bool false : Value) w_51 rfl rfl rfl (by kernel_rfl) ?_
            refine y_nil ?_
            exact y_then (hjK26 _ false w_51 rfl rfl rfl rfl rfl rfl rfl rfl rfl rfl rfl rfl rfl rfl h)
        · replace h := h.2 (hb28)
          refine y_frame (upd_id (i := 99) (v := .bool false) rfl (congrArg Value.bool hb28)) ?_
          refine y_gno rfl rfl rfl rfl ?_
          refine y_gno rfl rfl rfl rfl ?_
          refine y_gno rfl rfl rfl rfl ?_
          refine y_k (.bool false : Value) w_51 rfl rfl rfl (by kernel_rfl) ?_
          refine y_k (.bool false : Value) w_51 rfl rfl rfl (by kernel_rfl) ?_
          refine y_gno rfl rfl rfl rfl ?_
          refine y_gno rfl rfl rfl rfl ?_
          refine y_gno rfl rfl rfl rfl ?_
          refine y_k (.bool false : Value) w_51 rfl rfl rfl (by kernel_rfl) ?_
          refine y_k (.bool false : Value) w_51 rfl rfl rfl (by kernel_rfl) ?_
          refine y_nil ?_
          exact y_then (hjK26 _ false w_51 rfl rfl rfl rfl rfl rfl rfl rfl rfl rfl rfl rfl rfl rfl h)
      · replace h := h.2 (hb27)
        refine y_frame (upd_id (i := 94) (v := .bool false) rfl (congrArg Value.bool hb27)) ?_
        refine y_gno rfl rfl rfl rfl ?_
        refine y_gno rfl rfl rfl rfl ?_
        refine y_gno rfl rfl rfl rfl ?_
        refine y_k (.bool false : Value) w_49 rfl rfl rfl (by kernel_rfl) ?_
        refine y_k (.bool false : Value) w_49 rfl rfl rfl (by kernel_rfl) ?_
        refine y_gno rfl rfl rfl rfl ?_
        refine y_gno rfl rfl rfl rfl ?_
        refine y_gno rfl rfl rfl rfl ?_
        refine y_k (.bool false : Value) w_49 rfl rfl rfl (by kernel_rfl) ?_
        refine y_k (.bool false : Value) w_49 rfl rfl rfl (by kernel_rfl) ?_
        refine y_gno rfl rfl rfl rfl ?_
        refine y_gno rfl rfl rfl rfl ?_
        refine y_gno rfl rfl rfl rfl ?_
        refine y_k (.bool false : Value) w_49 rfl rfl rfl (by kernel_rfl) ?_
        refine y_k (.bool false : Value) w_49 rfl rfl rfl (by kernel_rfl) ?_
        refine y_nil ?_
        exact y_then (hjK26 _ false w_49 rfl rfl rfl rfl rfl rfl rfl rfl rfl rfl rfl rfl rfl rfl h)
    refine y_region ?_
    refine y_k (.slice t41_16.a t41_16.n t41_16.c : Value) w_33 rfl rfl rfl (by kernel_rfl) ?_
    refine y_k (.slice t28_6.a t28_6.n t28_6.c : Value) w_33 rfl rfl rfl (by kernel_rfl) ?_
    refine y_k (.slice t30_8.a t30_8.n t30_8.c : Value) w_33 rfl rfl rfl (by kernel_rfl) ?_
    refine y_call rfl rfl rfl (by kernel_rfl) (h.mono ?_)
    rintro _ w_35 ⟨t75_34, rfl, h⟩
    refine ⟨_, rfl, ?_⟩
    refine y_call rfl rfl rfl (by kernel_rfl) (h.mono ?_)
    rintro _ w_37 ⟨t76_36, rfl, h⟩
    refine ⟨_, rfl, ?_⟩
    refine y_k (.bool t76_36 : Value) w_37 rfl rfl rfl (by kernel_rfl) ?_
    refine y_fork (t76_36) (fun hb24 => ?_) (fun hb24 => ?_)
    · replace h := h.1 (hb24)
      refine y_frame (upd_id (i := 77) (v := .bool true) rfl (congrArg Value.bool hb24)) ?_
      refine y_gyes rfl rfl rfl ?_
      refine y_k (.slice t44_18.a t44_18.n t44_18.c : Value) w_37 rfl rfl rfl (by kernel_rfl) ?_
      refine y_gyes rfl rfl rfl ?_
      refine y_k (.slice t28_6.a t28_6.n t28_6.c : Value) w_37 rfl rfl rfl (by kernel_rfl) ?_
      refine y_gyes rfl rfl rfl ?_
      refine y_k (.slice t30_8.a t30_8.n t30_8.c : Value) w_37 rfl rfl rfl (by kernel_rfl) ?_
      refine y_gyes rfl rfl rfl ?_
      refine y_call rfl rfl rfl (by kernel_rfl) (h.mono ?_)
      rintro _ w_39 ⟨t81_38, rfl, h⟩
      refine ⟨_, rfl, ?_⟩
      refine y_gyes rfl rfl rfl ?_
      refine y_call rfl rfl rfl (by kernel_rfl) (h.mono ?_)
      rintro _ w_41 ⟨t82_40, rfl, h⟩
      refine ⟨_, rfl, ?_⟩
      refine y_k (.bool t82_40 : Value) w_41 rfl rfl rfl (by kernel_rfl) ?_
      refine y_k (.bool t82_40 : Value) w_41 rfl rfl rfl (by kernel_rfl) ?_
      refine y_fork (t82_40) (fun hb25 => ?_) (fun hb25 => ?_)
      · replace h := h.1 (hb25)
        refine y_frame (upd_id (i := 84) (v := .bool true) rfl (congrArg Value.bool hb25)) ?_
        refine y_gyes rfl rfl rfl ?_
        refine y_k (.slice t47_20.a t47_20.n t47_20.c : Value) w_41 rfl rfl rfl (by kernel_rfl) ?_
        refine y_gyes rfl rfl rfl ?_
        refine y_k (.slice t28_6.a t28_6.n t28_6.c : Value) w_41 rfl rfl rfl (by kernel_rfl) ?_
        refine y_gyes rfl rfl rfl ?_
        refine y_k (.slice t30_8.a t30_8.n t30_8.c : Value) w_41 rfl rfl rfl (by kernel_rfl) ?_
        refine y_gyes rfl rfl rfl ?_
        refine y_call rfl rfl rfl (by kernel_rfl) (h.mono ?_)
        rintro _ w_43 ⟨t88_42, rfl, h⟩
        refine ⟨_, rfl, ?_⟩
        refine y_gyes rfl rfl rfl ?_
        refine y_call rfl rfl rfl (by kernel_rfl) (h.mono ?_)
        rintro _ w_45 ⟨t89_44, rfl, h⟩
        refine ⟨_, rfl, ?_⟩
        refine y_k (.bool t89_44 : Value) w_45 rfl rfl rfl (by kernel_rfl) ?_
        refine y_k (.bool t89_44 : Value) w_45 rfl rfl rfl (by kernel_rfl) ?_
        refine y_nil ?_
        exact y_then (hjK23 _ t89_44 w_45 rfl rfl rfl rfl rfl rfl rfl rfl rfl rfl rfl rfl rfl rfl rfl rfl rfl rfl rfl h)
      · replace h := h.2 (hb25)
        refine y_frame (upd_id (i := 84) (v := .bool false) rfl (congrArg Value.bool hb25)) ?_
        refine y_gno rfl rfl rfl rfl ?_
        refine y_gno rfl rfl rfl rfl ?_
        refine y_gno rfl rfl rfl rfl ?_
        refine y_gno rfl rfl rfl rfl ?_
        refine y_gno rfl rfl rfl rfl ?_
        refine y_k (.bool false : Value) w_41 rfl rfl rfl (by kernel_rfl) ?_
        refine y_k (.bool false : Value) w_41 rfl rfl rfl (by kernel_rfl) ?_
        refine y_nil ?_
        exact y_then (hjK23 _ false w_41 rfl rfl rfl rfl rfl rfl rfl rfl rfl rfl rfl rfl rfl rfl rfl rfl rfl rfl rfl h)
    · replace h := h.2 (hb24)
      refine y_frame (upd_id (i := 77) (v := .bool false) rfl (congrArg Value.bool hb24)) ?_
      refine y_gno rfl rfl rfl rfl ?_
      refine y_gno rfl rfl rfl rfl ?_
      refine y_gno rfl rfl rfl rfl ?_
      refine y_gno rfl rfl rfl rfl ?_
      refine y_gno rfl rfl rfl rfl ?_
      refine y_k (.bool false : Value) w_37 rfl rfl rfl (by kernel_rfl) ?_
      refine y_k (.bool false : Value) w_37 rfl rfl rfl (by kernel_rfl) ?_
      refine y_gno rfl rfl rfl rfl ?_
      refine y_gno rfl rfl rfl rfl ?_
      refine y_gno rfl rfl rfl rfl ?_
      refine y_gno rfl rfl rfl rfl ?_
      refine y_gno rfl rfl rfl rfl ?_
      refine y_k (.bool false : Value) w_37 rfl rfl rfl (by kernel_rfl) ?_
      refine y_k (.bool false : Value) w_37 rfl rfl rfl (by kernel_rfl) ?_
      refine y_nil ?_
      exact y_then (hjK23 _ false w_37 rfl rfl rfl rfl rfl rfl rfl rfl rfl rfl rfl rfl rfl rfl rfl rfl rfl rfl rfl h)
  · replace h := h.2 (of_decide_eq_false hb54)
    refine y_exit ?_
    repeat (first | refine e_then_x ?_ | refine e_block_y rfl ?_)
    refine e_block_x ?_
    refine y_then (hK7 _ _ ?_)
    refine y_seq fun K53 hK53 => ?_
    refine y_region ?_
    refine y_k (.bool t26_4 : Value) w_15 rfl rfl rfl (by kernel_rfl) ?_
    refine y_k (.bool t26_4 : Value) w_15 rfl rfl rfl (by kernel_rfl) ?_
    refine y_nil ?_
    refine y_then (hK53 _ _ ?_)
    refine y_ret ?_
    repeat (first | refine e_then_r ?_ | refine e_block_r ?_)
    exact (hQ0 _ _ _ (res1 (v := (.bool t26_4 : Value)) rfl rfl rfl) ⟨_, rfl, h⟩).1

end Go.Proofs.Ytjgijifankaglaa
