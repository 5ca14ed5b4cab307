/- Printed by gen.py (own program, wip/): for each Go function a predicate transformer and its soundness. -/
import Derived.Test.YtjgijifankaglaaProg
import Derived.Test.YtjgijifankaglaaST
namespace Go.Proofs.Ytjgijifankaglaa
open Go Go.RowKit Go.Proofs.Ytjgijifankaglaa.SX
set_option linter.unusedVariables false

def F5_j1 (K : Bool → World → Prop) (t6_64 : Bool) (w_65 : World) : Prop :=
  K t6_64 w_65
/-- turnkey/turnkeylaw12.PostAlgebra -/
def F5 (a0_1 : Sl) (b1_2 : Sl) (n2_3 : Int) (K : Bool → World → Prop) (w : World) : Prop :=
  Calls Try.prog 13 #[] w fun e w_5 => ∃ (t20_4 : Bool), e = .returned (.bool t20_4 : Value) ∧
  Calls Try.prog 14 #[.slice a0_1.a a0_1.n a0_1.c] w_5 fun e w_7 => ∃ (t22_6 : Sl), e = .returned (.slice t22_6.a t22_6.n t22_6.c : Value) ∧
  Calls Try.prog 14 #[.slice b1_2.a b1_2.n b1_2.c] w_7 fun e w_9 => ∃ (t24_8 : Sl), e = .returned (.slice t24_8.a t24_8.n t24_8.c : Value) ∧
  Calls Try.prog 35 #[.slice t22_6.a t22_6.n t22_6.c] w_9 fun e w_11 => ∃ (t26_10 : Bool), e = .returned (.bool t26_10 : Value) ∧
  Calls Try.prog 35 #[.slice t24_8.a t24_8.n t24_8.c] w_11 fun e w_13 => ∃ (t28_12 : Bool), e = .returned (.bool t28_12 : Value) ∧
  ((t20_4 = false →
  K t20_4 w_13) ∧
  (t20_4 = true →
  ((t26_10 = false →
  K t20_4 w_13) ∧
  (t26_10 = true →
  ((t28_12 = false →
  K t20_4 w_13) ∧
  (t28_12 = true →
  Calls Try.prog 16 #[.slice t22_6.a t22_6.n t22_6.c, .slice t24_8.a t24_8.n t24_8.c] w_13 fun e w_15 => ∃ (t42_14 : Sl), e = .returned (.slice t42_14.a t42_14.n t42_14.c : Value) ∧
  Calls Try.prog 18 #[.slice t22_6.a t22_6.n t22_6.c, .slice t24_8.a t24_8.n t24_8.c] w_15 fun e w_17 => ∃ (t45_16 : Sl), e = .returned (.slice t45_16.a t45_16.n t45_16.c : Value) ∧
  Calls Try.prog 17 #[.slice t42_14.a t42_14.n t42_14.c, .slice t45_16.a t45_16.n t45_16.c] w_17 fun e w_19 => ∃ (t48_18 : Sl), e = .returned (.slice t48_18.a t48_18.n t48_18.c : Value) ∧
  Calls Try.prog 23 #[.slice t48_18.a t48_18.n t48_18.c, .slice t22_6.a t22_6.n t22_6.c] w_19 fun e w_21 => ∃ (t50_20 : Bool), e = .returned (.bool t50_20 : Value) ∧
  ((t50_20 = false →
  K false w_21) ∧
  (t50_20 = true →
  Calls Try.prog 16 #[.slice t24_8.a t24_8.n t24_8.c, .slice t22_6.a t22_6.n t22_6.c] w_21 fun e w_23 => ∃ (t55_22 : Sl), e = .returned (.slice t55_22.a t55_22.n t55_22.c : Value) ∧
  Calls Try.prog 23 #[.slice t55_22.a t55_22.n t55_22.c, .slice t42_14.a t42_14.n t42_14.c] w_23 fun e w_25 => ∃ (t57_24 : Bool), e = .returned (.bool t57_24 : Value) ∧
  ((t57_24 = false →
  K false w_25) ∧
  (t57_24 = true →
  Calls Try.prog 17 #[.slice t22_6.a t22_6.n t22_6.c, .slice t24_8.a t24_8.n t24_8.c] w_25 fun e w_27 => ∃ (t63_26 : Sl), e = .returned (.slice t63_26.a t63_26.n t63_26.c : Value) ∧
  Calls Try.prog 17 #[.slice t24_8.a t24_8.n t24_8.c, .slice t22_6.a t22_6.n t22_6.c] w_27 fun e w_29 => ∃ (t66_28 : Sl), e = .returned (.slice t66_28.a t66_28.n t66_28.c : Value) ∧
  Calls Try.prog 23 #[.slice t63_26.a t63_26.n t63_26.c, .slice t66_28.a t66_28.n t66_28.c] w_29 fun e w_31 => ∃ (t67_30 : Bool), e = .returned (.bool t67_30 : Value) ∧
  ((t67_30 = false →
  K false w_31) ∧
  (t67_30 = true →
  Calls Try.prog 18 #[.slice t22_6.a t22_6.n t22_6.c, .slice t45_16.a t45_16.n t45_16.c] w_31 fun e w_33 => ∃ (t73_32 : Sl), e = .returned (.slice t73_32.a t73_32.n t73_32.c : Value) ∧
  Calls Try.prog 23 #[.slice t73_32.a t73_32.n t73_32.c, .slice t42_14.a t42_14.n t42_14.c] w_33 fun e w_35 => ∃ (t75_34 : Bool), e = .returned (.bool t75_34 : Value) ∧
  ((t75_34 = false →
  K false w_35) ∧
  (t75_34 = true →
  Calls Try.prog 16 #[.slice t45_16.a t45_16.n t45_16.c, .slice t24_8.a t24_8.n t24_8.c] w_35 fun e w_37 => ∃ (t81_36 : Sl), e = .returned (.slice t81_36.a t81_36.n t81_36.c : Value) ∧
  ((¬ (((t81_36.n : Int))) = 0 →
  K false w_37) ∧
  ((((t81_36.n : Int))) = 0 →
  ∀ (w_38 : World), w_38 = w_37.alloc (.cells #[.int .u8 5] 5) →
  Calls Try.prog 31 #[.slice (some ⟨w_37.heap.size, 0, none⟩) 1 1, .slice t22_6.a t22_6.n t22_6.c] w_38 fun e w_41 => ∃ (t88_39 : Sl), ∃ (t88_40 : Bool), e = .returned (.tuple #[.slice t88_39.a t88_39.n t88_39.c, .bool t88_40] : Value) ∧
  ((t88_40 = false →
  K false w_41) ∧
  (t88_40 = true →
  (((((t88_39.n : Int))) = 0 →
  K false w_41) ∧
  (¬ (((t88_39.n : Int))) = 0 →
  ∃ (t100_42 : Sl), (Instr.sliceAt 33 (.slice t88_39.a t88_39.n t88_39.c : Value) (some (.int .i64 1 : Value)) none none).run Try.prog w_41 = .ok (.slice t100_42.a t100_42.n t100_42.c : Value) w_41 ∧
  ∀ (w_43 : World), w_43 = w_41.alloc (.cells #[.int .u8 255, .int .u8 255] 5) →
  ∃ (t102_44 : Sl), ∃ (w_45 : World), (Builtin.append_ #[33, 33] 33 #[.slice t100_42.a t100_42.n t100_42.c, .slice (some ⟨w_41.heap.size, 0, none⟩) 2 2]).run Try.prog w_43 = .ok (.slice t102_44.a t102_44.n t102_44.c : Value) w_45 ∧
  Calls Try.prog 33 #[.slice t102_44.a t102_44.n t102_44.c] w_45 fun e w_48 => ∃ (t103_46 : Sl), ∃ (t103_47 : Int), e = .returned (.tuple #[.slice t103_46.a t103_46.n t103_46.c, .int .i64 t103_47] : Value) ∧
  Calls Try.prog 23 #[.slice t103_46.a t103_46.n t103_46.c, .slice t22_6.a t22_6.n t22_6.c] w_48 fun e w_50 => ∃ (t108_49 : Bool), e = .returned (.bool t108_49 : Value) ∧
  ((t108_49 = false →
  K false w_50) ∧
  (t108_49 = true →
  ((¬ t103_47 = ((IntKind.i64.wrap (((t88_39.n : Int)) - 1))) →
  K false w_50) ∧
  (t103_47 = ((IntKind.i64.wrap (((t88_39.n : Int)) - 1))) →
  Calls Try.prog 19 #[.slice t22_6.a t22_6.n t22_6.c, .int .u32 n2_3] w_50 fun e w_53 => ∃ (t120_51 : Sl), ∃ (t120_52 : Bool), e = .returned (.tuple #[.slice t120_51.a t120_51.n t120_51.c, .bool t120_52] : Value) ∧
  Calls Try.prog 20 #[.slice t120_51.a t120_51.n t120_51.c, .int .u32 n2_3] w_53 fun e w_56 => ∃ (t126_54 : Sl), ∃ (t126_55 : Bool), e = .returned (.tuple #[.slice t126_54.a t126_54.n t126_54.c, .bool t126_55] : Value) ∧
  ((t126_55 = false →
  K false w_56) ∧
  (t126_55 = true →
  Calls Try.prog 27 #[.slice t22_6.a t22_6.n t22_6.c, .int .u32 n2_3] w_56 fun e w_58 => ∃ (t135_57 : Bool), e = .returned (.bool t135_57 : Value) ∧
  ∃ (t136_59 : Bool), (do eqGuard .eql 4 (Operand.tmp 132) (Operand.tmp 135) (.bool t120_52 : Value) (.bool t135_57 : Value); binOp .eql 4 (.bool t120_52 : Value) (.bool t135_57 : Value)).run Try.prog w_58 = .ok (.bool t136_59 : Value) w_58 ∧
  ((t136_59 = true →
  K false w_58) ∧
  (t136_59 = false →
  Calls Try.prog 27 #[.slice t120_51.a t120_51.n t120_51.c, .int .u32 n2_3] w_58 fun e w_61 => ∃ (t141_60 : Bool), e = .returned (.bool t141_60 : Value) ∧
  ((t141_60 = false →
  K false w_61) ∧
  (t141_60 = true →
  Calls Try.prog 27 #[.slice t126_54.a t126_54.n t126_54.c, .int .u32 n2_3] w_61 fun e w_63 => ∃ (t147_62 : Bool), e = .returned (.bool t147_62 : Value) ∧
  ((t147_62 = true →
  K false w_63) ∧
  (t147_62 = false →
  ((t120_52 = false →
  F5_j1 K true w_63) ∧
  (t120_52 = true →
  Calls Try.prog 23 #[.slice t126_54.a t126_54.n t126_54.c, .slice t22_6.a t22_6.n t22_6.c] w_63 fun e w_67 => ∃ (t154_66 : Bool), e = .returned (.bool t154_66 : Value) ∧
  F5_j1 K t154_66 w_67))))))))))))))))))))))))))))))))))
set_option maxHeartbeats 4000000 in
set_option maxRecDepth 20000 in
theorem F5_sound (a0_1 : Sl) (b1_2 : Sl) (n2_3 : Int) (K : Bool → World → Prop) (w : World) (h : F5 a0_1 b1_2 n2_3 K w) :
    Calls Try.prog 5 #[.slice a0_1.a a0_1.n a0_1.c, .slice b1_2.a b1_2.n b1_2.c, .int .u32 n2_3] w (fun e w1 => ∃ (r0 : Bool), e = .returned (.bool r0 : Value) ∧ K r0 w1) := by
  unfold F5 at h
  refine y_enter (n := 156) (args := [.slice a0_1.a a0_1.n a0_1.c, .slice b1_2.a b1_2.n b1_2.c, .int .u32 n2_3]) Try.func5 rfl rfl rfl fun Q0 hQ0 => ?_
  refine y_seq fun K1 hK1 => ?_
  refine y_region ?_
  refine y_k (.bool false : Value) w rfl rfl rfl (by kernel_rfl) ?_
  refine y_nil ?_
  refine y_then (hK1 _ _ ?_)
  refine y_seq fun K2 hK2 => ?_
  refine y_region ?_
  refine y_call rfl rfl rfl (by kernel_rfl) (h.mono ?_)
  rintro _ w_5 ⟨t20_4, rfl, h⟩
  refine ⟨_, rfl, ?_⟩
  refine y_k (.bool t20_4 : Value) w_5 rfl rfl rfl (by kernel_rfl) ?_
  refine y_nil ?_
  refine y_then (hK2 _ _ ?_)
  refine y_seq fun K3 hK3 => ?_
  refine y_region ?_
  refine y_k (.slice a0_1.a a0_1.n a0_1.c : Value) w_5 rfl rfl rfl (by kernel_rfl) ?_
  refine y_call rfl rfl rfl (by kernel_rfl) (h.mono ?_)
  rintro _ w_7 ⟨t22_6, rfl, h⟩
  refine ⟨_, rfl, ?_⟩
  refine y_k (.slice t22_6.a t22_6.n t22_6.c : Value) w_7 rfl rfl rfl (by kernel_rfl) ?_
  refine y_nil ?_
  refine y_then (hK3 _ _ ?_)
  refine y_seq fun K4 hK4 => ?_
  refine y_region ?_
  refine y_k (.slice b1_2.a b1_2.n b1_2.c : Value) w_7 rfl rfl rfl (by kernel_rfl) ?_
  refine y_call rfl rfl rfl (by kernel_rfl) (h.mono ?_)
  rintro _ w_9 ⟨t24_8, rfl, h⟩
  refine ⟨_, rfl, ?_⟩
  refine y_k (.slice t24_8.a t24_8.n t24_8.c : Value) w_9 rfl rfl rfl (by kernel_rfl) ?_
  refine y_nil ?_
  refine y_then (hK4 _ _ ?_)
  refine y_seq fun K5 hK5 => ?_
  refine y_region ?_
  refine y_k (.slice t22_6.a t22_6.n t22_6.c : Value) w_9 rfl rfl rfl (by kernel_rfl) ?_
  refine y_call rfl rfl rfl (by kernel_rfl) (h.mono ?_)
  rintro _ w_11 ⟨t26_10, rfl, h⟩
  refine ⟨_, rfl, ?_⟩
  refine y_k (.bool t26_10 : Value) w_11 rfl rfl rfl (by kernel_rfl) ?_
  refine y_nil ?_
  refine y_then (hK5 _ _ ?_)
  refine y_seq fun K6 hK6 => ?_
  refine y_region ?_
  refine y_k (.slice t24_8.a t24_8.n t24_8.c : Value) w_11 rfl rfl rfl (by kernel_rfl) ?_
  refine y_call rfl rfl rfl (by kernel_rfl) (h.mono ?_)
  rintro _ w_13 ⟨t28_12, rfl, h⟩
  refine ⟨_, rfl, ?_⟩
  refine y_k (.bool t28_12 : Value) w_13 rfl rfl rfl (by kernel_rfl) ?_
  refine y_nil ?_
  refine y_then (hK6 _ _ ?_)
  refine y_seq fun K7 hK7 => ?_
  refine y_seq fun K8 hK8 => ?_
  refine y_region ?_
  refine y_k (.bool t20_4 : Value) w_13 rfl rfl rfl (by kernel_rfl) ?_
  refine y_k (.bool (!(t20_4)) : Value) w_13 rfl rfl rfl (by kernel_rfl) ?_
  refine y_k (.bool (!(t20_4)) : Value) w_13 rfl rfl rfl (by kernel_rfl) ?_
  refine y_fork (!(t20_4)) (fun hb9 => ?_) (fun hb9 => ?_)
  · replace h := h.1 ((not_true_of hb9))
    refine y_frame (upd_id (i := 31) (v := .bool true) rfl (congrArg Value.bool hb9)) ?_
    refine y_gno rfl rfl rfl rfl ?_
    refine y_gno rfl rfl rfl rfl ?_
    refine y_k (.bool true : Value) w_13 rfl rfl rfl (by kernel_rfl) ?_
    refine y_k (.bool true : Value) w_13 rfl rfl rfl (by kernel_rfl) ?_
    refine y_gno rfl rfl rfl rfl ?_
    refine y_gno rfl rfl rfl rfl ?_
    refine y_k (.bool true : Value) w_13 rfl rfl rfl (by kernel_rfl) ?_
    refine y_nil ?_
    refine y_then (hK8 _ _ ?_)
    refine y_cond_t rfl rfl ?_
    refine y_seq fun K10 hK10 => ?_
    refine y_region ?_
    refine y_k (.bool t20_4 : Value) w_13 rfl rfl rfl (by kernel_rfl) ?_
    refine y_k (.bool t20_4 : Value) w_13 rfl rfl rfl (by kernel_rfl) ?_
    refine y_nil ?_
    refine y_then (hK10 _ _ ?_)
    refine y_ret ?_
    repeat (first | refine e_then_r ?_ | refine e_block_r ?_)
    exact (hQ0 _ _ _ (res1 (v := (.bool t20_4 : Value)) rfl rfl rfl) ⟨_, rfl, h⟩).1
  · replace h := h.2 ((not_false_of hb9))
    refine y_frame (upd_id (i := 31) (v := .bool false) rfl (congrArg Value.bool hb9)) ?_
    refine y_gyes rfl rfl rfl ?_
    refine y_k (.bool t26_10 : Value) w_13 rfl rfl rfl (by kernel_rfl) ?_
    refine y_gyes rfl rfl rfl ?_
    refine y_k (.bool (!(t26_10)) : Value) w_13 rfl rfl rfl (by kernel_rfl) ?_
    refine y_k (.bool (!(t26_10)) : Value) w_13 rfl rfl rfl (by kernel_rfl) ?_
    refine y_k (.bool (!(t26_10)) : Value) w_13 rfl rfl rfl (by kernel_rfl) ?_
    refine y_fork (!(t26_10)) (fun hb11 => ?_) (fun hb11 => ?_)
    · replace h := h.1 ((not_true_of hb11))
      refine y_frame (upd_id (i := 35) (v := .bool true) rfl (congrArg Value.bool hb11)) ?_
      refine y_gno rfl rfl rfl rfl ?_
      refine y_gno rfl rfl rfl rfl ?_
      refine y_k (.bool true : Value) w_13 rfl rfl rfl (by kernel_rfl) ?_
      refine y_nil ?_
      refine y_then (hK8 _ _ ?_)
      refine y_cond_t rfl rfl ?_
      refine y_seq fun K12 hK12 => ?_
      refine y_region ?_
      refine y_k (.bool t20_4 : Value) w_13 rfl rfl rfl (by kernel_rfl) ?_
      refine y_k (.bool t20_4 : Value) w_13 rfl rfl rfl (by kernel_rfl) ?_
      refine y_nil ?_
      refine y_then (hK12 _ _ ?_)
      refine y_ret ?_
      repeat (first | refine e_then_r ?_ | refine e_block_r ?_)
      exact (hQ0 _ _ _ (res1 (v := (.bool t20_4 : Value)) rfl rfl rfl) ⟨_, rfl, h⟩).1
    · replace h := h.2 ((not_false_of hb11))
      refine y_frame (upd_id (i := 35) (v := .bool false) rfl (congrArg Value.bool hb11)) ?_
      refine y_gyes rfl rfl rfl ?_
      refine y_k (.bool t28_12 : Value) w_13 rfl rfl rfl (by kernel_rfl) ?_
      refine y_gyes rfl rfl rfl ?_
      refine y_k (.bool (!(t28_12)) : Value) w_13 rfl rfl rfl (by kernel_rfl) ?_
      refine y_k (.bool (!(t28_12)) : Value) w_13 rfl rfl rfl (by kernel_rfl) ?_
      refine y_nil ?_
      refine y_then (hK8 _ _ ?_)
      refine y_cond (!(t28_12)) rfl rfl (fun hb59 => ?_) (fun hb59 => ?_)
      · replace h := h.1 ((not_true_of hb59))
        refine y_seq fun K13 hK13 => ?_
        refine y_region ?_
        refine y_k (.bool t20_4 : Value) w_13 rfl rfl rfl (by kernel_rfl) ?_
        refine y_k (.bool t20_4 : Value) w_13 rfl rfl rfl (by kernel_rfl) ?_
        refine y_nil ?_
        refine y_then (hK13 _ _ ?_)
        refine y_ret ?_
        repeat (first | refine e_then_r ?_ | refine e_block_r ?_)
        exact (hQ0 _ _ _ (res1 (v := (.bool t20_4 : Value)) rfl rfl rfl) ⟨_, rfl, h⟩).1
      · replace h := h.2 ((not_false_of hb59))
        refine y_skip ?_
        refine y_then (hK7 _ _ ?_)
        refine y_seq fun K14 hK14 => ?_
        refine y_region ?_
        refine y_k (.slice t22_6.a t22_6.n t22_6.c : Value) w_13 rfl rfl rfl (by kernel_rfl) ?_
        refine y_k (.slice t24_8.a t24_8.n t24_8.c : Value) w_13 rfl rfl rfl (by kernel_rfl) ?_
        refine y_call rfl rfl rfl (by kernel_rfl) (h.mono ?_)
        rintro _ w_15 ⟨t42_14, rfl, h⟩
        refine ⟨_, rfl, ?_⟩
        refine y_k (.slice t42_14.a t42_14.n t42_14.c : Value) w_15 rfl rfl rfl (by kernel_rfl) ?_
        refine y_nil ?_
        refine y_then (hK14 _ _ ?_)
        refine y_seq fun K15 hK15 => ?_
        refine y_region ?_
        refine y_k (.slice t22_6.a t22_6.n t22_6.c : Value) w_15 rfl rfl rfl (by kernel_rfl) ?_
        refine y_k (.slice t24_8.a t24_8.n t24_8.c : Value) w_15 rfl rfl rfl (by kernel_rfl) ?_
        refine y_call rfl rfl rfl (by kernel_rfl) (h.mono ?_)
        rintro _ w_17 ⟨t45_16, rfl, h⟩
        refine ⟨_, rfl, ?_⟩
        refine y_k (.slice t45_16.a t45_16.n t45_16.c : Value) w_17 rfl rfl rfl (by kernel_rfl) ?_
        refine y_nil ?_
        refine y_then (hK15 _ _ ?_)
        refine y_seq fun K16 hK16 => ?_
        refine y_seq fun K17 hK17 => ?_
        refine y_region ?_
        refine y_k (.slice t42_14.a t42_14.n t42_14.c : Value) w_17 rfl rfl rfl (by kernel_rfl) ?_
        refine y_k (.slice t45_16.a t45_16.n t45_16.c : Value) w_17 rfl rfl rfl (by kernel_rfl) ?_
        refine y_call rfl rfl rfl (by kernel_rfl) (h.mono ?_)
        rintro _ w_19 ⟨t48_18, rfl, h⟩
        refine ⟨_, rfl, ?_⟩
        refine y_k (.slice t22_6.a t22_6.n t22_6.c : Value) w_19 rfl rfl rfl (by kernel_rfl) ?_
        refine y_call rfl rfl rfl (by kernel_rfl) (h.mono ?_)
        rintro _ w_21 ⟨t50_20, rfl, h⟩
        refine ⟨_, rfl, ?_⟩
        refine y_k (.bool (!(t50_20)) : Value) w_21 rfl rfl rfl (by kernel_rfl) ?_
        refine y_k (.bool (!(t50_20)) : Value) w_21 rfl rfl rfl (by kernel_rfl) ?_
        refine y_fork (!(t50_20)) (fun hb18 => ?_) (fun hb18 => ?_)
        · replace h := h.1 ((not_true_of hb18))
          refine y_frame (upd_id (i := 52) (v := .bool true) rfl (congrArg Value.bool hb18)) ?_
          refine y_gno rfl rfl rfl rfl ?_
          refine y_gno rfl rfl rfl rfl ?_
          refine y_gno rfl rfl rfl rfl ?_
          refine y_gno rfl rfl rfl rfl ?_
          refine y_gno rfl rfl rfl rfl ?_
          refine y_gno rfl rfl rfl rfl ?_
          refine y_k (.bool true : Value) w_21 rfl rfl rfl (by kernel_rfl) ?_
          refine y_k (.bool true : Value) w_21 rfl rfl rfl (by kernel_rfl) ?_
          refine y_gno rfl rfl rfl rfl ?_
          refine y_gno rfl rfl rfl rfl ?_
          refine y_gno rfl rfl rfl rfl ?_
          refine y_gno rfl rfl rfl rfl ?_
          refine y_gno rfl rfl rfl rfl ?_
          refine y_gno rfl rfl rfl rfl ?_
          refine y_gno rfl rfl rfl rfl ?_
          refine y_gno rfl rfl rfl rfl ?_
          refine y_k (.bool true : Value) w_21 rfl rfl rfl (by kernel_rfl) ?_
          refine y_k (.bool true : Value) w_21 rfl rfl rfl (by kernel_rfl) ?_
          refine y_gno rfl rfl rfl rfl ?_
          refine y_gno rfl rfl rfl rfl ?_
          refine y_gno rfl rfl rfl rfl ?_
          refine y_gno rfl rfl rfl rfl ?_
          refine y_gno rfl rfl rfl rfl ?_
          refine y_gno rfl rfl rfl rfl ?_
          refine y_k (.bool true : Value) w_21 rfl rfl rfl (by kernel_rfl) ?_
          refine y_k (.bool true : Value) w_21 rfl rfl rfl (by kernel_rfl) ?_
          refine y_gno rfl rfl rfl rfl ?_
          refine y_gno rfl rfl rfl rfl ?_
          refine y_gno rfl rfl rfl rfl ?_
          refine y_gno rfl rfl rfl rfl ?_
          refine y_gno rfl rfl rfl rfl ?_
          refine y_k (.bool true : Value) w_21 rfl rfl rfl (by kernel_rfl) ?_
          refine y_nil ?_
          refine y_then (hK17 _ _ ?_)
          refine y_cond_t rfl rfl ?_
          refine y_seq fun K19 hK19 => ?_
          refine y_region ?_
          refine y_k (.bool false : Value) w_21 rfl rfl rfl (by kernel_rfl) ?_
          refine y_nil ?_
          refine y_then (hK19 _ _ ?_)
          refine y_ret ?_
          repeat (first | refine e_then_r ?_ | refine e_block_r ?_)
          exact (hQ0 _ _ _ (res1 (v := (.bool false : Value)) rfl rfl rfl) ⟨_, rfl, h⟩).1
        · replace h := h.2 ((not_false_of hb18))
          refine y_frame (upd_id (i := 52) (v := .bool false) rfl (congrArg Value.bool hb18)) ?_
          refine y_gyes rfl rfl rfl ?_
          refine y_k (.slice t24_8.a t24_8.n t24_8.c : Value) w_21 rfl rfl rfl (by kernel_rfl) ?_
          refine y_gyes rfl rfl rfl ?_
          refine y_k (.slice t22_6.a t22_6.n t22_6.c : Value) w_21 rfl rfl rfl (by kernel_rfl) ?_
          refine y_gyes rfl rfl rfl ?_
          refine y_call rfl rfl rfl (by kernel_rfl) (h.mono ?_)
          rintro _ w_23 ⟨t55_22, rfl, h⟩
          refine ⟨_, rfl, ?_⟩
          refine y_gyes rfl rfl rfl ?_
          refine y_k (.slice t42_14.a t42_14.n t42_14.c : Value) w_23 rfl rfl rfl (by kernel_rfl) ?_
          refine y_gyes rfl rfl rfl ?_
          refine y_call rfl rfl rfl (by kernel_rfl) (h.mono ?_)
          rintro _ w_25 ⟨t57_24, rfl, h⟩
          refine ⟨_, rfl, ?_⟩
          refine y_gyes rfl rfl rfl ?_
          refine y_k (.bool (!(t57_24)) : Value) w_25 rfl rfl rfl (by kernel_rfl) ?_
          refine y_k (.bool (!(t57_24)) : Value) w_25 rfl rfl rfl (by kernel_rfl) ?_
          refine y_k (.bool (!(t57_24)) : Value) w_25 rfl rfl rfl (by kernel_rfl) ?_
          refine y_fork (!(t57_24)) (fun hb20 => ?_) (fun hb20 => ?_)
          · replace h := h.1 ((not_true_of hb20))
            refine y_frame (upd_id (i := 60) (v := .bool true) rfl (congrArg Value.bool hb20)) ?_
            refine y_gno rfl rfl rfl rfl ?_
            refine y_gno rfl rfl rfl rfl ?_
            refine y_gno rfl rfl rfl rfl ?_
            refine y_gno rfl rfl rfl rfl ?_
            refine y_gno rfl rfl rfl rfl ?_
            refine y_gno rfl rfl rfl rfl ?_
            refine y_gno rfl rfl rfl rfl ?_
            refine y_gno rfl rfl rfl rfl ?_
            refine y_k (.bool true : Value) w_25 rfl rfl rfl (by kernel_rfl) ?_
            refine y_k (.bool true : Value) w_25 rfl rfl rfl (by kernel_rfl) ?_
            refine y_gno rfl rfl rfl rfl ?_
            refine y_gno rfl rfl rfl rfl ?_
            refine y_gno rfl rfl rfl rfl ?_
            refine y_gno rfl rfl rfl rfl ?_
            refine y_gno rfl rfl rfl rfl ?_
            refine y_gno rfl rfl rfl rfl ?_
            refine y_k (.bool true : Value) w_25 rfl rfl rfl (by kernel_rfl) ?_
            refine y_k (.bool true : Value) w_25 rfl rfl rfl (by kernel_rfl) ?_
            refine y_gno rfl rfl rfl rfl ?_
            refine y_gno rfl rfl rfl rfl ?_
            refine y_gno rfl rfl rfl rfl ?_
            refine y_gno rfl rfl rfl rfl ?_
            refine y_gno rfl rfl rfl rfl ?_
            refine y_k (.bool true : Value) w_25 rfl rfl rfl (by kernel_rfl) ?_
            refine y_nil ?_
            refine y_then (hK17 _ _ ?_)
            refine y_cond_t rfl rfl ?_
            refine y_seq fun K21 hK21 => ?_
            refine y_region ?_
            refine y_k (.bool false : Value) w_25 rfl rfl rfl (by kernel_rfl) ?_
            refine y_nil ?_
            refine y_then (hK21 _ _ ?_)
            refine y_ret ?_
            repeat (first | refine e_then_r ?_ | refine e_block_r ?_)
            exact (hQ0 _ _ _ (res1 (v := (.bool false : Value)) rfl rfl rfl) ⟨_, rfl, h⟩).1
          · replace h := h.2 ((not_false_of hb20))
            refine y_frame (upd_id (i := 60) (v := .bool false) rfl (congrArg Value.bool hb20)) ?_
            refine y_gyes rfl rfl rfl ?_
            refine y_k (.slice t22_6.a t22_6.n t22_6.c : Value) w_25 rfl rfl rfl (by kernel_rfl) ?_
            refine y_gyes rfl rfl rfl ?_
            refine y_k (.slice t24_8.a t24_8.n t24_8.c : Value) w_25 rfl rfl rfl (by kernel_rfl) ?_
            refine y_gyes rfl rfl rfl ?_
            refine y_call rfl rfl rfl (by kernel_rfl) (h.mono ?_)
            rintro _ w_27 ⟨t63_26, rfl, h⟩
            refine ⟨_, rfl, ?_⟩
            refine y_gyes rfl rfl rfl ?_
            refine y_k (.slice t24_8.a t24_8.n t24_8.c : Value) w_27 rfl rfl rfl (by kernel_rfl) ?_
            refine y_gyes rfl rfl rfl ?_
            refine y_k (.slice t22_6.a t22_6.n t22_6.c : Value) w_27 rfl rfl rfl (by kernel_rfl) ?_
            refine y_gyes rfl rfl rfl ?_
            refine y_call rfl rfl rfl (by kernel_rfl) (h.mono ?_)
            rintro _ w_29 ⟨t66_28, rfl, h⟩
            refine ⟨_, rfl, ?_⟩
            refine y_gyes rfl rfl rfl ?_
            refine y_call rfl rfl rfl (by kernel_rfl) (h.mono ?_)
            rintro _ w_31 ⟨t67_30, rfl, h⟩
            refine ⟨_, rfl, ?_⟩
            refine y_gyes rfl rfl rfl ?_
            refine y_k (.bool (!(t67_30)) : Value) w_31 rfl rfl rfl (by kernel_rfl) ?_
            refine y_k (.bool (!(t67_30)) : Value) w_31 rfl rfl rfl (by kernel_rfl) ?_
            refine y_k (.bool (!(t67_30)) : Value) w_31 rfl rfl rfl (by kernel_rfl) ?_
            refine y_fork (!(t67_30)) (fun hb22 => ?_) (fun hb22 => ?_)
            · replace h := h.1 ((not_true_of hb22))
              refine y_frame (upd_id (i := 70) (v := .bool true) rfl (congrArg Value.bool hb22)) ?_
              refine y_gno rfl rfl rfl rfl ?_
              refine y_gno rfl rfl rfl rfl ?_
              refine y_gno rfl rfl rfl rfl ?_
              refine y_gno rfl rfl rfl rfl ?_
              refine y_gno rfl rfl rfl rfl ?_
              refine y_gno rfl rfl rfl rfl ?_
              refine y_k (.bool true : Value) w_31 rfl rfl rfl (by kernel_rfl) ?_
              refine y_k (.bool true : Value) w_31 rfl rfl rfl (by kernel_rfl) ?_
              refine y_gno rfl rfl rfl rfl ?_
              refine y_gno rfl rfl rfl rfl ?_
              refine y_gno rfl rfl rfl rfl ?_
              refine y_gno rfl rfl rfl rfl ?_
              refine y_gno rfl rfl rfl rfl ?_
              refine y_k (.bool true : Value) w_31 rfl rfl rfl (by kernel_rfl) ?_
              refine y_nil ?_
              refine y_then (hK17 _ _ ?_)
              refine y_cond_t rfl rfl ?_
              refine y_seq fun K23 hK23 => ?_
              refine y_region ?_
              refine y_k (.bool false : Value) w_31 rfl rfl rfl (by kernel_rfl) ?_
              refine y_nil ?_
              refine y_then (hK23 _ _ ?_)
              refine y_ret ?_
              repeat (first | refine e_then_r ?_ | refine e_block_r ?_)
              exact (hQ0 _ _ _ (res1 (v := (.bool false : Value)) rfl rfl rfl) ⟨_, rfl, h⟩).1
            · replace h := h.2 ((not_false_of hb22))
              refine y_frame (upd_id (i := 70) (v := .bool false) rfl (congrArg Value.bool hb22)) ?_
              refine y_gyes rfl rfl rfl ?_
              refine y_k (.slice t22_6.a t22_6.n t22_6.c : Value) w_31 rfl rfl rfl (by kernel_rfl) ?_
              refine y_gyes rfl rfl rfl ?_
              refine y_k (.slice t45_16.a t45_16.n t45_16.c : Value) w_31 rfl rfl rfl (by kernel_rfl) ?_
              refine y_gyes rfl rfl rfl ?_
              refine y_call rfl rfl rfl (by kernel_rfl) (h.mono ?_)
              rintro _ w_33 ⟨t73_32, rfl, h⟩
              refine ⟨_, rfl, ?_⟩
              refine y_gyes rfl rfl rfl ?_
              refine y_k (.slice t42_14.a t42_14.n t42_14.c : Value) w_33 rfl rfl rfl (by kernel_rfl) ?_
              refine y_gyes rfl rfl rfl ?_
              refine y_call rfl rfl rfl (by kernel_rfl) (h.mono ?_)
              rintro _ w_35 ⟨t75_34, rfl, h⟩
              refine ⟨_, rfl, ?_⟩
              refine y_gyes rfl rfl rfl ?_
              refine y_k (.bool (!(t75_34)) : Value) w_35 rfl rfl rfl (by kernel_rfl) ?_
              refine y_k (.bool (!(t75_34)) : Value) w_35 rfl rfl rfl (by kernel_rfl) ?_
              refine y_k (.bool (!(t75_34)) : Value) w_35 rfl rfl rfl (by kernel_rfl) ?_
              refine y_fork (!(t75_34)) (fun hb24 => ?_) (fun hb24 => ?_)
              · replace h := h.1 ((not_true_of hb24))
                refine y_frame (upd_id (i := 78) (v := .bool true) rfl (congrArg Value.bool hb24)) ?_
                refine y_gno rfl rfl rfl rfl ?_
                refine y_gno rfl rfl rfl rfl ?_
                refine y_gno rfl rfl rfl rfl ?_
                refine y_gno rfl rfl rfl rfl ?_
                refine y_gno rfl rfl rfl rfl ?_
                refine y_k (.bool true : Value) w_35 rfl rfl rfl (by kernel_rfl) ?_
                refine y_nil ?_
                refine y_then (hK17 _ _ ?_)
                refine y_cond_t rfl rfl ?_
                refine y_seq fun K25 hK25 => ?_
                refine y_region ?_
                refine y_k (.bool false : Value) w_35 rfl rfl rfl (by kernel_rfl) ?_
                refine y_nil ?_
                refine y_then (hK25 _ _ ?_)
                refine y_ret ?_
                repeat (first | refine e_then_r ?_ | refine e_block_r ?_)
                exact (hQ0 _ _ _ (res1 (v := (.bool false : Value)) rfl rfl rfl) ⟨_, rfl, h⟩).1
              · replace h := h.2 ((not_false_of hb24))
                refine y_frame (upd_id (i := 78) (v := .bool false) rfl (congrArg Value.bool hb24)) ?_
                refine y_gyes rfl rfl rfl ?_
                refine y_k (.slice t45_16.a t45_16.n t45_16.c : Value) w_35 rfl rfl rfl (by kernel_rfl) ?_
                refine y_gyes rfl rfl rfl ?_
                refine y_k (.slice t24_8.a t24_8.n t24_8.c : Value) w_35 rfl rfl rfl (by kernel_rfl) ?_
                refine y_gyes rfl rfl rfl ?_
                refine y_call rfl rfl rfl (by kernel_rfl) (h.mono ?_)
                rintro _ w_37 ⟨t81_36, rfl, h⟩
                refine ⟨_, rfl, ?_⟩
                refine y_gyes rfl rfl rfl ?_
                refine y_k (.int .i64 ((t81_36.n : Int)) : Value) w_37 rfl rfl rfl (by kernel_rfl) ?_
                refine y_gyes rfl rfl rfl ?_
                refine y_k (.bool (((((t81_36.n : Int))) != 0)) : Value) w_37 rfl rfl rfl (by kernel_rfl) ?_
                refine y_k (.bool (((((t81_36.n : Int))) != 0)) : Value) w_37 rfl rfl rfl (by kernel_rfl) ?_
                refine y_nil ?_
                refine y_then (hK17 _ _ ?_)
                refine y_cond (((((t81_36.n : Int))) != 0)) rfl rfl (fun hb58 => ?_) (fun hb58 => ?_)
                · replace h := h.1 (bne_iff_ne.mp hb58)
                  refine y_seq fun K26 hK26 => ?_
                  refine y_region ?_
                  refine y_k (.bool false : Value) w_37 rfl rfl rfl (by kernel_rfl) ?_
                  refine y_nil ?_
                  refine y_then (hK26 _ _ ?_)
                  refine y_ret ?_
                  repeat (first | refine e_then_r ?_ | refine e_block_r ?_)
                  exact (hQ0 _ _ _ (res1 (v := (.bool false : Value)) rfl rfl rfl) ⟨_, rfl, h⟩).1
                · replace h := h.2 (bne_eq_false_iff_eq.mp hb58)
                  refine y_skip ?_
                  refine y_then (hK16 _ _ ?_)
                  refine y_seq fun K27 hK27 => ?_
                  refine y_region ?_
                  refine y_k (.slice (some ⟨w_37.heap.size, 0, none⟩) 1 1 : Value) (w_37.alloc (.cells #[.int .u8 5] 5)) rfl rfl rfl (by kernel_rfl) ?_
                  replace h := h _ rfl
                  generalize w_37.alloc (.cells #[.int .u8 5] 5) = w_38 at h ⊢
                  refine y_k (.slice t22_6.a t22_6.n t22_6.c : Value) w_38 rfl rfl rfl (by kernel_rfl) ?_
                  refine y_call rfl rfl rfl (by kernel_rfl) (h.mono ?_)
                  rintro _ w_41 ⟨t88_39, t88_40, rfl, h⟩
                  refine ⟨_, rfl, ?_⟩
                  refine y_k (.tuple #[.slice t88_39.a t88_39.n t88_39.c, .bool t88_40] : Value) w_41 rfl rfl rfl (by kernel_rfl) ?_
                  refine y_k (.slice t88_39.a t88_39.n t88_39.c : Value) w_41 rfl rfl rfl (by kernel_rfl) ?_
                  refine y_k (.bool t88_40 : Value) w_41 rfl rfl rfl (by kernel_rfl) ?_
                  refine y_k (.slice t88_39.a t88_39.n t88_39.c : Value) w_41 rfl rfl rfl (by kernel_rfl) ?_
                  refine y_k (.bool t88_40 : Value) w_41 rfl rfl rfl (by kernel_rfl) ?_
                  refine y_nil ?_
                  refine y_then (hK27 _ _ ?_)
                  refine y_seq fun K28 hK28 => ?_
                  refine y_seq fun K29 hK29 => ?_
                  refine y_region ?_
                  refine y_k (.bool t88_40 : Value) w_41 rfl rfl rfl (by kernel_rfl) ?_
                  refine y_k (.bool (!(t88_40)) : Value) w_41 rfl rfl rfl (by kernel_rfl) ?_
                  refine y_k (.bool (!(t88_40)) : Value) w_41 rfl rfl rfl (by kernel_rfl) ?_
                  refine y_fork (!(t88_40)) (fun hb30 => ?_) (fun hb30 => ?_)
                  · replace h := h.1 ((not_true_of hb30))
                    refine y_frame (upd_id (i := 93) (v := .bool true) rfl (congrArg Value.bool hb30)) ?_
                    refine y_gno rfl rfl rfl rfl ?_
                    refine y_gno rfl rfl rfl rfl ?_
                    refine y_gno rfl rfl rfl rfl ?_
                    refine y_k (.bool true : Value) w_41 rfl rfl rfl (by kernel_rfl) ?_
                    refine y_nil ?_
                    refine y_then (hK29 _ _ ?_)
                    refine y_cond_t rfl rfl ?_
                    refine y_seq fun K31 hK31 => ?_
                    refine y_region ?_
                    refine y_k (.bool false : Value) w_41 rfl rfl rfl (by kernel_rfl) ?_
                    refine y_nil ?_
                    refine y_then (hK31 _ _ ?_)
                    refine y_ret ?_
                    repeat (first | refine e_then_r ?_ | refine e_block_r ?_)
                    exact (hQ0 _ _ _ (res1 (v := (.bool false : Value)) rfl rfl rfl) ⟨_, rfl, h⟩).1
                  · replace h := h.2 ((not_false_of hb30))
                    refine y_frame (upd_id (i := 93) (v := .bool false) rfl (congrArg Value.bool hb30)) ?_
                    refine y_gyes rfl rfl rfl ?_
                    refine y_k (.slice t88_39.a t88_39.n t88_39.c : Value) w_41 rfl rfl rfl (by kernel_rfl) ?_
                    refine y_gyes rfl rfl rfl ?_
                    refine y_k (.int .i64 ((t88_39.n : Int)) : Value) w_41 rfl rfl rfl (by kernel_rfl) ?_
                    refine y_gyes rfl rfl rfl ?_
                    refine y_k (.bool (((((t88_39.n : Int))) == 0)) : Value) w_41 rfl rfl rfl (by kernel_rfl) ?_
                    refine y_k (.bool (((((t88_39.n : Int))) == 0)) : Value) w_41 rfl rfl rfl (by kernel_rfl) ?_
                    refine y_nil ?_
                    refine y_then (hK29 _ _ ?_)
                    refine y_cond (((((t88_39.n : Int))) == 0)) rfl rfl (fun hb57 => ?_) (fun hb57 => ?_)
                    · replace h := h.1 (eq_of_beq hb57)
                      refine y_seq fun K32 hK32 => ?_
                      refine y_region ?_
                      refine y_k (.bool false : Value) w_41 rfl rfl rfl (by kernel_rfl) ?_
                      refine y_nil ?_
                      refine y_then (hK32 _ _ ?_)
                      refine y_ret ?_
                      repeat (first | refine e_then_r ?_ | refine e_block_r ?_)
                      exact (hQ0 _ _ _ (res1 (v := (.bool false : Value)) rfl rfl rfl) ⟨_, rfl, h⟩).1
                    · replace h := h.2 (beq_eq_false_iff_ne.mp hb57)
                      refine y_skip ?_
                      refine y_then (hK28 _ _ ?_)
                      refine y_seq fun K33 hK33 => ?_
                      refine y_region ?_
                      refine y_k (.slice t88_39.a t88_39.n t88_39.c : Value) w_41 rfl rfl rfl (by kernel_rfl) ?_
                      obtain ⟨t100_42, hx34, h⟩ := h
                      refine y_v (s := Instr.sliceAt 33 (.slice t88_39.a t88_39.n t88_39.c : Value) (some (.int .i64 1 : Value)) none none) rfl rfl rfl (by kernel_rfl) (hx34) ?_
                      refine y_k (.slice (some ⟨w_41.heap.size, 0, none⟩) 2 2 : Value) (w_41.alloc (.cells #[.int .u8 255, .int .u8 255] 5)) rfl rfl rfl (by kernel_rfl) ?_
                      replace h := h _ rfl
                      generalize w_41.alloc (.cells #[.int .u8 255, .int .u8 255] 5) = w_43 at h ⊢
                      obtain ⟨t102_44, w_45, hx35, h⟩ := h
                      refine y_v (s := Builtin.append_ #[33, 33] 33 #[.slice t100_42.a t100_42.n t100_42.c, .slice (some ⟨w_41.heap.size, 0, none⟩) 2 2]) rfl rfl rfl (by kernel_rfl) hx35 ?_
                      refine y_call rfl rfl rfl (by kernel_rfl) (h.mono ?_)
                      rintro _ w_48 ⟨t103_46, t103_47, rfl, h⟩
                      refine ⟨_, rfl, ?_⟩
                      refine y_k (.tuple #[.slice t103_46.a t103_46.n t103_46.c, .int .i64 t103_47] : Value) w_48 rfl rfl rfl (by kernel_rfl) ?_
                      refine y_k (.slice t103_46.a t103_46.n t103_46.c : Value) w_48 rfl rfl rfl (by kernel_rfl) ?_
                      refine y_k (.int .i64 t103_47 : Value) w_48 rfl rfl rfl (by kernel_rfl) ?_
                      refine y_k (.slice t103_46.a t103_46.n t103_46.c : Value) w_48 rfl rfl rfl (by kernel_rfl) ?_
                      refine y_k (.int .i64 t103_47 : Value) w_48 rfl rfl rfl (by kernel_rfl) ?_
                      refine y_nil ?_
                      refine y_then (hK33 _ _ ?_)
                      refine y_seq fun K36 hK36 => ?_
                      refine y_seq fun K37 hK37 => ?_
                      refine y_region ?_
                      refine y_k (.slice t103_46.a t103_46.n t103_46.c : Value) w_48 rfl rfl rfl (by kernel_rfl) ?_
                      refine y_k (.slice t22_6.a t22_6.n t22_6.c : Value) w_48 rfl rfl rfl (by kernel_rfl) ?_
                      refine y_call rfl rfl rfl (by kernel_rfl) (h.mono ?_)
                      rintro _ w_50 ⟨t108_49, rfl, h⟩
                      refine ⟨_, rfl, ?_⟩
                      refine y_k (.bool (!(t108_49)) : Value) w_50 rfl rfl rfl (by kernel_rfl) ?_
                      refine y_k (.bool (!(t108_49)) : Value) w_50 rfl rfl rfl (by kernel_rfl) ?_
                      refine y_fork (!(t108_49)) (fun hb38 => ?_) (fun hb38 => ?_)
                      · replace h := h.1 ((not_true_of hb38))
                        refine y_frame (upd_id (i := 110) (v := .bool true) rfl (congrArg Value.bool hb38)) ?_
                        refine y_gno rfl rfl rfl rfl ?_
                        refine y_gno rfl rfl rfl rfl ?_
                        refine y_gno rfl rfl rfl rfl ?_
                        refine y_gno rfl rfl rfl rfl ?_
                        refine y_gno rfl rfl rfl rfl ?_
                        refine y_k (.bool true : Value) w_50 rfl rfl rfl (by kernel_rfl) ?_
                        refine y_nil ?_
                        refine y_then (hK37 _ _ ?_)
                        refine y_cond_t rfl rfl ?_
                        refine y_seq fun K39 hK39 => ?_
                        refine y_region ?_
                        refine y_k (.bool false : Value) w_50 rfl rfl rfl (by kernel_rfl) ?_
                        refine y_nil ?_
                        refine y_then (hK39 _ _ ?_)
                        refine y_ret ?_
                        repeat (first | refine e_then_r ?_ | refine e_block_r ?_)
                        exact (hQ0 _ _ _ (res1 (v := (.bool false : Value)) rfl rfl rfl) ⟨_, rfl, h⟩).1
                      · replace h := h.2 ((not_false_of hb38))
                        refine y_frame (upd_id (i := 110) (v := .bool false) rfl (congrArg Value.bool hb38)) ?_
                        refine y_gyes rfl rfl rfl ?_
                        refine y_k (.int .i64 t103_47 : Value) w_50 rfl rfl rfl (by kernel_rfl) ?_
                        refine y_gyes rfl rfl rfl ?_
                        refine y_k (.slice t88_39.a t88_39.n t88_39.c : Value) w_50 rfl rfl rfl (by kernel_rfl) ?_
                        refine y_gyes rfl rfl rfl ?_
                        refine y_k (.int .i64 ((t88_39.n : Int)) : Value) w_50 rfl rfl rfl (by kernel_rfl) ?_
                        refine y_gyes rfl rfl rfl ?_
                        refine y_k (.int .i64 (IntKind.i64.wrap (((t88_39.n : Int)) - 1)) : Value) w_50 rfl rfl rfl (by kernel_rfl) ?_
                        refine y_gyes rfl rfl rfl ?_
                        refine y_k (.bool ((t103_47 != ((IntKind.i64.wrap (((t88_39.n : Int)) - 1))))) : Value) w_50 rfl rfl rfl (by kernel_rfl) ?_
                        refine y_k (.bool ((t103_47 != ((IntKind.i64.wrap (((t88_39.n : Int)) - 1))))) : Value) w_50 rfl rfl rfl (by kernel_rfl) ?_
                        refine y_nil ?_
                        refine y_then (hK37 _ _ ?_)
                        refine y_cond ((t103_47 != ((IntKind.i64.wrap (((t88_39.n : Int)) - 1))))) rfl rfl (fun hb56 => ?_) (fun hb56 => ?_)
                        · replace h := h.1 (bne_iff_ne.mp hb56)
                          refine y_seq fun K40 hK40 => ?_
                          refine y_region ?_
                          refine y_k (.bool false : Value) w_50 rfl rfl rfl (by kernel_rfl) ?_
                          refine y_nil ?_
                          refine y_then (hK40 _ _ ?_)
                          refine y_ret ?_
                          repeat (first | refine e_then_r ?_ | refine e_block_r ?_)
                          exact (hQ0 _ _ _ (res1 (v := (.bool false : Value)) rfl rfl rfl) ⟨_, rfl, h⟩).1
                        · replace h := h.2 (bne_eq_false_iff_eq.mp hb56)
                          refine y_skip ?_
                          refine y_then (hK36 _ _ ?_)
                          refine y_seq fun K41 hK41 => ?_
                          refine y_region ?_
                          refine y_k (.slice t22_6.a t22_6.n t22_6.c : Value) w_50 rfl rfl rfl (by kernel_rfl) ?_
                          refine y_k (.int .u32 n2_3 : Value) w_50 rfl rfl rfl (by kernel_rfl) ?_
                          refine y_call rfl rfl rfl (by kernel_rfl) (h.mono ?_)
                          rintro _ w_53 ⟨t120_51, t120_52, rfl, h⟩
                          refine ⟨_, rfl, ?_⟩
                          refine y_k (.tuple #[.slice t120_51.a t120_51.n t120_51.c, .bool t120_52] : Value) w_53 rfl rfl rfl (by kernel_rfl) ?_
                          refine y_k (.slice t120_51.a t120_51.n t120_51.c : Value) w_53 rfl rfl rfl (by kernel_rfl) ?_
                          refine y_k (.bool t120_52 : Value) w_53 rfl rfl rfl (by kernel_rfl) ?_
                          refine y_k (.slice t120_51.a t120_51.n t120_51.c : Value) w_53 rfl rfl rfl (by kernel_rfl) ?_
                          refine y_k (.bool t120_52 : Value) w_53 rfl rfl rfl (by kernel_rfl) ?_
                          refine y_nil ?_
                          refine y_then (hK41 _ _ ?_)
                          refine y_seq fun K42 hK42 => ?_
                          refine y_region ?_
                          refine y_k (.slice t120_51.a t120_51.n t120_51.c : Value) w_53 rfl rfl rfl (by kernel_rfl) ?_
                          refine y_k (.int .u32 n2_3 : Value) w_53 rfl rfl rfl (by kernel_rfl) ?_
                          refine y_call rfl rfl rfl (by kernel_rfl) (h.mono ?_)
                          rintro _ w_56 ⟨t126_54, t126_55, rfl, h⟩
                          refine ⟨_, rfl, ?_⟩
                          refine y_k (.tuple #[.slice t126_54.a t126_54.n t126_54.c, .bool t126_55] : Value) w_56 rfl rfl rfl (by kernel_rfl) ?_
                          refine y_k (.slice t126_54.a t126_54.n t126_54.c : Value) w_56 rfl rfl rfl (by kernel_rfl) ?_
                          refine y_k (.bool t126_55 : Value) w_56 rfl rfl rfl (by kernel_rfl) ?_
                          refine y_k (.slice t126_54.a t126_54.n t126_54.c : Value) w_56 rfl rfl rfl (by kernel_rfl) ?_
                          refine y_k (.bool t126_55 : Value) w_56 rfl rfl rfl (by kernel_rfl) ?_
                          refine y_nil ?_
                          refine y_then (hK42 _ _ ?_)
                          refine y_seq fun K43 hK43 => ?_
                          refine y_seq fun K44 hK44 => ?_
                          refine y_region ?_
                          refine y_k (.bool t126_55 : Value) w_56 rfl rfl rfl (by kernel_rfl) ?_
                          refine y_k (.bool (!(t126_55)) : Value) w_56 rfl rfl rfl (by kernel_rfl) ?_
                          refine y_k (.bool (!(t126_55)) : Value) w_56 rfl rfl rfl (by kernel_rfl) ?_
                          refine y_fork (!(t126_55)) (fun hb45 => ?_) (fun hb45 => ?_)
                          · replace h := h.1 ((not_true_of hb45))
                            refine y_frame (upd_id (i := 131) (v := .bool true) rfl (congrArg Value.bool hb45)) ?_
                            refine y_gno rfl rfl rfl rfl ?_
                            refine y_gno rfl rfl rfl rfl ?_
                            refine y_gno rfl rfl rfl rfl ?_
                            refine y_gno rfl rfl rfl rfl ?_
                            refine y_gno rfl rfl rfl rfl ?_
                            refine y_k (.bool true : Value) w_56 rfl rfl rfl (by kernel_rfl) ?_
                            refine y_k (.bool true : Value) w_56 rfl rfl rfl (by kernel_rfl) ?_
                            refine y_gno rfl rfl rfl rfl ?_
                            refine y_gno rfl rfl rfl rfl ?_
                            refine y_gno rfl rfl rfl rfl ?_
                            refine y_gno rfl rfl rfl rfl ?_
                            refine y_k (.bool true : Value) w_56 rfl rfl rfl (by kernel_rfl) ?_
                            refine y_k (.bool true : Value) w_56 rfl rfl rfl (by kernel_rfl) ?_
                            refine y_gno rfl rfl rfl rfl ?_
                            refine y_gno rfl rfl rfl rfl ?_
                            refine y_gno rfl rfl rfl rfl ?_
                            refine y_k (.bool true : Value) w_56 rfl rfl rfl (by kernel_rfl) ?_
                            refine y_nil ?_
                            refine y_then (hK44 _ _ ?_)
                            refine y_cond_t rfl rfl ?_
                            refine y_seq fun K46 hK46 => ?_
                            refine y_region ?_
                            refine y_k (.bool false : Value) w_56 rfl rfl rfl (by kernel_rfl) ?_
                            refine y_nil ?_
                            refine y_then (hK46 _ _ ?_)
                            refine y_ret ?_
                            repeat (first | refine e_then_r ?_ | refine e_block_r ?_)
                            exact (hQ0 _ _ _ (res1 (v := (.bool false : Value)) rfl rfl rfl) ⟨_, rfl, h⟩).1
                          · replace h := h.2 ((not_false_of hb45))
                            refine y_frame (upd_id (i := 131) (v := .bool false) rfl (congrArg Value.bool hb45)) ?_
                            refine y_gyes rfl rfl rfl ?_
                            refine y_k (.bool t120_52 : Value) w_56 rfl rfl rfl (by kernel_rfl) ?_
                            refine y_gyes rfl rfl rfl ?_
                            refine y_k (.slice t22_6.a t22_6.n t22_6.c : Value) w_56 rfl rfl rfl (by kernel_rfl) ?_
                            refine y_gyes rfl rfl rfl ?_
                            refine y_k (.int .u32 n2_3 : Value) w_56 rfl rfl rfl (by kernel_rfl) ?_
                            refine y_gyes rfl rfl rfl ?_
                            refine y_call rfl rfl rfl (by kernel_rfl) (h.mono ?_)
                            rintro _ w_58 ⟨t135_57, rfl, h⟩
                            refine ⟨_, rfl, ?_⟩
                            refine y_gyes rfl rfl rfl ?_
                            obtain ⟨t136_59, hx47, h⟩ := h
                            refine y_v (s := do eqGuard .eql 4 (Operand.tmp 132) (Operand.tmp 135) (.bool t120_52 : Value) (.bool t135_57 : Value); binOp .eql 4 (.bool t120_52 : Value) (.bool t135_57 : Value)) rfl rfl rfl (by kernel_rfl) (hx47) ?_
                            refine y_k (.bool t136_59 : Value) w_58 rfl rfl rfl (by kernel_rfl) ?_
                            refine y_k (.bool t136_59 : Value) w_58 rfl rfl rfl (by kernel_rfl) ?_
                            refine y_fork (t136_59) (fun hb48 => ?_) (fun hb48 => ?_)
                            · replace h := h.1 (hb48)
                              refine y_frame (upd_id (i := 138) (v := .bool true) rfl (congrArg Value.bool hb48)) ?_
                              refine y_gno rfl rfl rfl rfl ?_
                              refine y_gno rfl rfl rfl rfl ?_
                              refine y_gno rfl rfl rfl rfl ?_
                              refine y_gno rfl rfl rfl rfl ?_
                              refine y_k (.bool true : Value) w_58 rfl rfl rfl (by kernel_rfl) ?_
                              refine y_k (.bool true : Value) w_58 rfl rfl rfl (by kernel_rfl) ?_
                              refine y_gno rfl rfl rfl rfl ?_
                              refine y_gno rfl rfl rfl rfl ?_
                              refine y_gno rfl rfl rfl rfl ?_
                              refine y_k (.bool true : Value) w_58 rfl rfl rfl (by kernel_rfl) ?_
                              refine y_nil ?_
                              refine y_then (hK44 _ _ ?_)
                              refine y_cond_t rfl rfl ?_
                              refine y_seq fun K49 hK49 => ?_
                              refine y_region ?_
                              refine y_k (.bool false : Value) w_58 rfl rfl rfl (by kernel_rfl) ?_
                              refine y_nil ?_
                              refine y_then (hK49 _ _ ?_)
                              refine y_ret ?_
                              repeat (first | refine e_then_r ?_ | refine e_block_r ?_)
                              exact (hQ0 _ _ _ (res1 (v := (.bool false : Value)) rfl rfl rfl) ⟨_, rfl, h⟩).1
                            · replace h := h.2 (hb48)
                              refine y_frame (upd_id (i := 138) (v := .bool false) rfl (congrArg Value.bool hb48)) ?_
                              refine y_gyes rfl rfl rfl ?_
                              refine y_k (.slice t120_51.a t120_51.n t120_51.c : Value) w_58 rfl rfl rfl (by kernel_rfl) ?_
                              refine y_gyes rfl rfl rfl ?_
                              refine y_k (.int .u32 n2_3 : Value) w_58 rfl rfl rfl (by kernel_rfl) ?_
                              refine y_gyes rfl rfl rfl ?_
                              refine y_call rfl rfl rfl (by kernel_rfl) (h.mono ?_)
                              rintro _ w_61 ⟨t141_60, rfl, h⟩
                              refine ⟨_, rfl, ?_⟩
                              refine y_gyes rfl rfl rfl ?_
                              refine y_k (.bool (!(t141_60)) : Value) w_61 rfl rfl rfl (by kernel_rfl) ?_
                              refine y_k (.bool (!(t141_60)) : Value) w_61 rfl rfl rfl (by kernel_rfl) ?_
                              refine y_k (.bool (!(t141_60)) : Value) w_61 rfl rfl rfl (by kernel_rfl) ?_
                              refine y_fork (!(t141_60)) (fun hb50 => ?_) (fun hb50 => ?_)
                              · replace h := h.1 ((not_true_of hb50))
                                refine y_frame (upd_id (i := 144) (v := .bool true) rfl (congrArg Value.bool hb50)) ?_
                                refine y_gno rfl rfl rfl rfl ?_
                                refine y_gno rfl rfl rfl rfl ?_
                                refine y_gno rfl rfl rfl rfl ?_
                                refine y_k (.bool true : Value) w_61 rfl rfl rfl (by kernel_rfl) ?_
                                refine y_nil ?_
                                refine y_then (hK44 _ _ ?_)
                                refine y_cond_t rfl rfl ?_
                                refine y_seq fun K51 hK51 => ?_
                                refine y_region ?_
                                refine y_k (.bool false : Value) w_61 rfl rfl rfl (by kernel_rfl) ?_
                                refine y_nil ?_
                                refine y_then (hK51 _ _ ?_)
                                refine y_ret ?_
                                repeat (first | refine e_then_r ?_ | refine e_block_r ?_)
                                exact (hQ0 _ _ _ (res1 (v := (.bool false : Value)) rfl rfl rfl) ⟨_, rfl, h⟩).1
                              · replace h := h.2 ((not_false_of hb50))
                                refine y_frame (upd_id (i := 144) (v := .bool false) rfl (congrArg Value.bool hb50)) ?_
                                refine y_gyes rfl rfl rfl ?_
                                refine y_k (.slice t126_54.a t126_54.n t126_54.c : Value) w_61 rfl rfl rfl (by kernel_rfl) ?_
                                refine y_gyes rfl rfl rfl ?_
                                refine y_k (.int .u32 n2_3 : Value) w_61 rfl rfl rfl (by kernel_rfl) ?_
                                refine y_gyes rfl rfl rfl ?_
                                refine y_call rfl rfl rfl (by kernel_rfl) (h.mono ?_)
                                rintro _ w_63 ⟨t147_62, rfl, h⟩
                                refine ⟨_, rfl, ?_⟩
                                refine y_k (.bool t147_62 : Value) w_63 rfl rfl rfl (by kernel_rfl) ?_
                                refine y_nil ?_
                                refine y_then (hK44 _ _ ?_)
                                refine y_cond (t147_62) rfl rfl (fun hb55 => ?_) (fun hb55 => ?_)
                                · replace h := h.1 (hb55)
                                  refine y_seq fun K52 hK52 => ?_
                                  refine y_region ?_
                                  refine y_k (.bool false : Value) w_63 rfl rfl rfl (by kernel_rfl) ?_
                                  refine y_nil ?_
                                  refine y_then (hK52 _ _ ?_)
                                  refine y_ret ?_
                                  repeat (first | refine e_then_r ?_ | refine e_block_r ?_)
                                  exact (hQ0 _ _ _ (res1 (v := (.bool false : Value)) rfl rfl rfl) ⟨_, rfl, h⟩).1
                                · replace h := h.2 (hb55)
                                  refine y_skip ?_
                                  refine y_then (hK43 _ _ ?_)
                                  refine y_seq fun K53 hK53 => ?_
                                  have hjK53 : ∀ (f : Fr) (t6_64 : Bool) (w_65 : World), f 6 = (.bool t6_64 : Value) → F5_j1 K t6_64 w_65 → WK K53 156 f w_65 := by
                                    intro f t6_64 w_65 e6 h
                                    refine y_atf (upd_id rfl e6) ?_
                                    clear e6
                                    unfold F5_j1 at h
                                    refine hK53 _ _ ?_
                                    refine y_ret ?_
                                    repeat (first | refine e_then_r ?_ | refine e_block_r ?_)
                                    exact (hQ0 _ _ _ (res1 (v := (.bool t6_64 : Value)) rfl rfl rfl) ⟨_, rfl, h⟩).1
                                  refine y_region ?_
                                  refine y_k (.bool t120_52 : Value) w_63 rfl rfl rfl (by kernel_rfl) ?_
                                  refine y_k (.bool (!(t120_52)) : Value) w_63 rfl rfl rfl (by kernel_rfl) ?_
                                  refine y_k (.bool (!(t120_52)) : Value) w_63 rfl rfl rfl (by kernel_rfl) ?_
                                  refine y_fork (!(t120_52)) (fun hb54 => ?_) (fun hb54 => ?_)
                                  · replace h := h.1 ((not_true_of hb54))
                                    refine y_frame (upd_id (i := 151) (v := .bool true) rfl (congrArg Value.bool hb54)) ?_
                                    refine y_gno rfl rfl rfl rfl ?_
                                    refine y_gno rfl rfl rfl rfl ?_
                                    refine y_gno rfl rfl rfl rfl ?_
                                    refine y_k (.bool true : Value) w_63 rfl rfl rfl (by kernel_rfl) ?_
                                    refine y_k (.bool true : Value) w_63 rfl rfl rfl (by kernel_rfl) ?_
                                    refine y_nil ?_
                                    exact y_then (hjK53 _ true w_63 rfl h)
                                  · replace h := h.2 ((not_false_of hb54))
                                    refine y_frame (upd_id (i := 151) (v := .bool false) rfl (congrArg Value.bool hb54)) ?_
                                    refine y_gyes rfl rfl rfl ?_
                                    refine y_k (.slice t126_54.a t126_54.n t126_54.c : Value) w_63 rfl rfl rfl (by kernel_rfl) ?_
                                    refine y_gyes rfl rfl rfl ?_
                                    refine y_k (.slice t22_6.a t22_6.n t22_6.c : Value) w_63 rfl rfl rfl (by kernel_rfl) ?_
                                    refine y_gyes rfl rfl rfl ?_
                                    refine y_call rfl rfl rfl (by kernel_rfl) (h.mono ?_)
                                    rintro _ w_67 ⟨t154_66, rfl, h⟩
                                    refine ⟨_, rfl, ?_⟩
                                    refine y_k (.bool t154_66 : Value) w_67 rfl rfl rfl (by kernel_rfl) ?_
                                    refine y_k (.bool t154_66 : Value) w_67 rfl rfl rfl (by kernel_rfl) ?_
                                    refine y_nil ?_
                                    exact y_then (hjK53 _ t154_66 w_67 rfl h)

end Go.Proofs.Ytjgijifankaglaa
