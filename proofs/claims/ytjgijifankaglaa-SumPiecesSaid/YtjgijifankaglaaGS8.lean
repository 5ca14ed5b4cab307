/- Printed by gen.py (own program, wip/): for each Go function a predicate transformer and its soundness. -/
import Derived.Test.YtjgijifankaglaaProg
import Derived.Test.YtjgijifankaglaaST
namespace Go.Proofs.Ytjgijifankaglaa
open Go Go.RowKit Go.Proofs.Ytjgijifankaglaa.SX
set_option linter.unusedVariables false

def F8_l4 (K : Bool → World → Prop) (t21_5 : Option Addr) (often1_9 : Int) (t38_11 : Option Addr) (t39_13 : Option Addr) (i11_15 : Int) (next20 : (Int) → World → Prop) (t58_21 : Sl) (t75_27 : Sl) (t79_31 : Sl) (next67 : (Int) → World → Prop) : (Int) → World → Prop := fun (k19_45) w_46 =>
  ((k19_45 < ((t79_31.n : Int)) →
  (0 : Int) ≤ k19_45 ∧ k19_45 < (t79_31.n : Int) ∧ ∃ (a_47 : Addr), t79_31.a = some a_47 ∧
  HasCell w_46 (a_47.add (Int.toNat k19_45)) ∧ ∀ (w_48 : World), w_48 = w_46.setCell (a_47.add (Int.toNat k19_45)) (.int .u8 7 : Value) →
  next67 (IntKind.i64.wrap (k19_45 + 1)) w_48) ∧
  (¬ (k19_45 < ((t79_31.n : Int))) →
  Calls Try.prog 48 #[.pointer t38_11, .slice t58_21.a t58_21.n t58_21.c] w_46 fun e w_49 => e = .returned (.tuple #[] : Value) ∧
  Calls Try.prog 48 #[.pointer t39_13, .slice t75_27.a t75_27.n t75_27.c] w_49 fun e w_50 => e = .returned (.tuple #[] : Value) ∧
  (IntKind.i64.wrap ((Int.tmod often1_9 4) + 1)) ≠ 0 ∧
  ((((Int.tmod i11_15 (IntKind.i64.wrap ((Int.tmod often1_9 4) + 1)))) = 0 →
  Calls Try.prog 49 #[.pointer t21_5] w_50 fun e w_52 => ∃ (t136_51 : Value), e = .returned t136_51 ∧
  Calls Try.prog 50 #[.pointer t38_11] w_52 fun e w_54 => ∃ (t138_53 : Value), e = .returned t138_53 ∧
  ∃ (t139_55 : Bool), (do eqGuard .neq 50 (Operand.tmp 136) (Operand.tmp 138) t136_51 t138_53; binOp .neq 50 t136_51 t138_53).run Try.prog w_54 = .ok (.bool t139_55 : Value) w_54 ∧
  ((t139_55 = true →
  K false w_54) ∧
  (t139_55 = false →
  Calls Try.prog 49 #[.pointer t21_5] w_54 fun e w_57 => ∃ (t142_56 : Value), e = .returned t142_56 ∧
  Calls Try.prog 50 #[.pointer t38_11] w_57 fun e w_59 => ∃ (t144_58 : Value), e = .returned t144_58 ∧
  ∃ (t145_60 : Bool), (do eqGuard .neq 50 (Operand.tmp 142) (Operand.tmp 144) t142_56 t144_58; binOp .neq 50 t142_56 t144_58).run Try.prog w_59 = .ok (.bool t145_60 : Value) w_59 ∧
  ((t145_60 = true →
  K false w_59) ∧
  (t145_60 = false →
  next20 (IntKind.i64.wrap (i11_15 + 1)) w_59))))) ∧
  (¬ ((Int.tmod i11_15 (IntKind.i64.wrap ((Int.tmod often1_9 4) + 1)))) = 0 →
  next20 (IntKind.i64.wrap (i11_15 + 1)) w_50))))
def F8_l3 (K : Bool → World → Prop) (t21_5 : Option Addr) (often1_9 : Int) (t38_11 : Option Addr) (t39_13 : Option Addr) (i11_15 : Int) (next20 : (Int) → World → Prop) (t58_21 : Sl) (t75_27 : Sl) (t77_29 : Sl) (t79_31 : Sl) (next56 : (Int) → World → Prop) : (Int) → World → Prop := fun (k18_41) w_42 =>
  ((k18_41 < ((t77_29.n : Int)) →
  (0 : Int) ≤ k18_41 ∧ k18_41 < (t77_29.n : Int) ∧ ∃ (a_43 : Addr), t77_29.a = some a_43 ∧
  HasCell w_42 (a_43.add (Int.toNat k18_41)) ∧ ∀ (w_44 : World), w_44 = w_42.setCell (a_43.add (Int.toNat k18_41)) (.int .u8 7 : Value) →
  next56 (IntKind.i64.wrap (k18_41 + 1)) w_44) ∧
  (¬ (k18_41 < ((t77_29.n : Int))) →
  kLoop (F8_l4 K t21_5 often1_9 t38_11 t39_13 i11_15 next20 t58_21 t75_27 t79_31) (0) w_42))
def F8_j5 (K : Bool → World → Prop) (t4_71 : Bool) (w_72 : World) : Prop :=
  K t4_71 w_72
def F8_l2 (l0_1 : Sl) (K : Bool → World → Prop) (t21_5 : Option Addr) (t22_7 : Option Addr) (often1_9 : Int) (t38_11 : Option Addr) (t39_13 : Option Addr) (next20 : (Int) → World → Prop) : (Int) → World → Prop := fun (i11_15) w_16 =>
  ((i11_15 < ((if 200 < ((l0_1.n : Int)) then 200 else ((l0_1.n : Int)))) →
  (0 : Int) ≤ i11_15 ∧ i11_15 < (l0_1.n : Int) ∧ ∃ (a_17 : Addr), l0_1.a = some a_17 ∧
  ∃ (t51_18 : Sl), w_16.cell? (a_17.add (Int.toNat i11_15)) = some (.slice t51_18.a t51_18.n t51_18.c) ∧
  (0 : Int) ≤ i11_15 ∧ i11_15 < (l0_1.n : Int) ∧ ∃ (a_19 : Addr), l0_1.a = some a_19 ∧
  ∃ (t55_20 : Sl), w_16.cell? (a_19.add (Int.toNat i11_15)) = some (.slice t55_20.a t55_20.n t55_20.c) ∧
  ∃ (t58_21 : Sl), (∀ m, (Instr.sliceAt 33 (.slice t51_18.a t51_18.n t51_18.c : Value) none (some (.int .i64 ((if 2000 < ((t55_20.n : Int)) then 2000 else ((t55_20.n : Int)))) : Value)) none).run Try.prog (w_16.drewN m) = .ok (.slice t58_21.a t58_21.n t58_21.c : Value) (w_16.drewN m)) ∧
  ∀ (w_22 : World), (∃ m, w_22 = w_16.drewN m) →
  (0 : Int) ≤ (IntKind.i64.wrap ((IntKind.i64.wrap (((if 200 < ((l0_1.n : Int)) then 200 else ((l0_1.n : Int)))) - 1)) - i11_15)) ∧ (IntKind.i64.wrap ((IntKind.i64.wrap (((if 200 < ((l0_1.n : Int)) then 200 else ((l0_1.n : Int)))) - 1)) - i11_15)) < (l0_1.n : Int) ∧ ∃ (a_23 : Addr), l0_1.a = some a_23 ∧
  ∃ (t65_24 : Sl), w_22.cell? (a_23.add (Int.toNat (IntKind.i64.wrap ((IntKind.i64.wrap (((if 200 < ((l0_1.n : Int)) then 200 else ((l0_1.n : Int)))) - 1)) - i11_15)))) = some (.slice t65_24.a t65_24.n t65_24.c) ∧
  (0 : Int) ≤ (IntKind.i64.wrap ((IntKind.i64.wrap (((if 200 < ((l0_1.n : Int)) then 200 else ((l0_1.n : Int)))) - 1)) - i11_15)) ∧ (IntKind.i64.wrap ((IntKind.i64.wrap (((if 200 < ((l0_1.n : Int)) then 200 else ((l0_1.n : Int)))) - 1)) - i11_15)) < (l0_1.n : Int) ∧ ∃ (a_25 : Addr), l0_1.a = some a_25 ∧
  ∃ (t72_26 : Sl), w_22.cell? (a_25.add (Int.toNat (IntKind.i64.wrap ((IntKind.i64.wrap (((if 200 < ((l0_1.n : Int)) then 200 else ((l0_1.n : Int)))) - 1)) - i11_15)))) = some (.slice t72_26.a t72_26.n t72_26.c) ∧
  ∃ (t75_27 : Sl), (∀ m, (Instr.sliceAt 33 (.slice t65_24.a t65_24.n t65_24.c : Value) none (some (.int .i64 ((if 2000 < ((t72_26.n : Int)) then 2000 else ((t72_26.n : Int)))) : Value)) none).run Try.prog (w_22.drewN m) = .ok (.slice t75_27.a t75_27.n t75_27.c : Value) (w_22.drewN m)) ∧
  ∀ (w_28 : World), (∃ m, w_28 = w_22.drewN m) →
  Calls Try.prog 39 #[.slice t58_21.a t58_21.n t58_21.c] w_28 fun e w_30 => ∃ (t77_29 : Sl), e = .returned (.slice t77_29.a t77_29.n t77_29.c : Value) ∧
  Calls Try.prog 39 #[.slice t75_27.a t75_27.n t75_27.c] w_30 fun e w_32 => ∃ (t79_31 : Sl), e = .returned (.slice t79_31.a t79_31.n t79_31.c : Value) ∧
  ∃ (t84_33 : Sl), (Instr.sliceAt 33 (.slice t77_29.a t77_29.n t77_29.c : Value) none (some (.int .i64 ((t58_21.n : Int)) : Value)) none).run Try.prog w_32 = .ok (.slice t84_33.a t84_33.n t84_33.c : Value) w_32 ∧
  Calls Try.prog 47 #[.pointer t21_5, .slice t84_33.a t84_33.n t84_33.c] w_32 fun e w_34 => e = .returned (.tuple #[] : Value) ∧
  ∃ (t90_35 : Sl), (Instr.sliceAt 33 (.slice t79_31.a t79_31.n t79_31.c : Value) none (some (.int .i64 ((t75_27.n : Int)) : Value)) none).run Try.prog w_34 = .ok (.slice t90_35.a t90_35.n t90_35.c : Value) w_34 ∧
  Calls Try.prog 47 #[.pointer t22_7, .slice t90_35.a t90_35.n t90_35.c] w_34 fun e w_36 => e = .returned (.tuple #[] : Value) ∧
  Calls Try.prog 42 #[.slice t77_29.a t77_29.n t77_29.c, .slice t58_21.a t58_21.n t58_21.c] w_36 fun e w_38 => ∃ (t94_37 : Bool), e = .returned (.bool t94_37 : Value) ∧
  Calls Try.prog 42 #[.slice t79_31.a t79_31.n t79_31.c, .slice t75_27.a t75_27.n t75_27.c] w_38 fun e w_40 => ∃ (t97_39 : Bool), e = .returned (.bool t97_39 : Value) ∧
  ((t94_37 = false →
  K false w_40) ∧
  (t94_37 = true →
  ((t97_39 = false →
  K false w_40) ∧
  (t97_39 = true →
  kLoop (F8_l3 K t21_5 often1_9 t38_11 t39_13 i11_15 next20 t58_21 t75_27 t77_29 t79_31) (0) w_40))))) ∧
  (¬ (i11_15 < ((if 200 < ((l0_1.n : Int)) then 200 else ((l0_1.n : Int))))) →
  Calls Try.prog 49 #[.pointer t21_5] w_16 fun e w_62 => ∃ (t149_61 : Value), e = .returned t149_61 ∧
  Calls Try.prog 50 #[.pointer t38_11] w_62 fun e w_64 => ∃ (t151_63 : Value), e = .returned t151_63 ∧
  ∃ (t152_65 : Bool), (do eqGuard .eql 50 (Operand.tmp 149) (Operand.tmp 151) t149_61 t151_63; binOp .eql 50 t149_61 t151_63).run Try.prog w_64 = .ok (.bool t152_65 : Value) w_64 ∧
  ((t152_65 = true →
  Calls Try.prog 49 #[.pointer t22_7] w_64 fun e w_67 => ∃ (t155_66 : Value), e = .returned t155_66 ∧
  Calls Try.prog 50 #[.pointer t39_13] w_67 fun e w_69 => ∃ (t157_68 : Value), e = .returned t157_68 ∧
  ∃ (t158_70 : Bool), (do eqGuard .eql 50 (Operand.tmp 155) (Operand.tmp 157) t155_66 t157_68; binOp .eql 50 t155_66 t157_68).run Try.prog w_69 = .ok (.bool t158_70 : Value) w_69 ∧
  F8_j5 K t158_70 w_69) ∧
  (t152_65 = false →
  F8_j5 K false w_64))))
def F8_j1 (l0_1 : Sl) (K : Bool → World → Prop) (t21_5 : Option Addr) (t22_7 : Option Addr) (often1_9 : Int) (w_10 : World) : Prop :=
  Calls Try.prog 46 #[] w_10 fun e w_12 => ∃ (t38_11 : Option Addr), e = .returned (.pointer t38_11 : Value) ∧
  Calls Try.prog 46 #[] w_12 fun e w_14 => ∃ (t39_13 : Option Addr), e = .returned (.pointer t39_13 : Value) ∧
  kLoop (F8_l2 l0_1 K t21_5 t22_7 often1_9 t38_11 t39_13) (0) w_14
/-- turnkey/turnkeylaw02.SumPieces -/
def F8 (l0_1 : Sl) (often1_2 : Int) (K : Bool → World → Prop) (w : World) : Prop :=
  Calls Try.prog 38 #[] w fun e w_4 => ∃ (t20_3 : Bool), e = .returned (.bool t20_3 : Value) ∧
  Calls Try.prog 45 #[] w_4 fun e w_6 => ∃ (t21_5 : Option Addr), e = .returned (.pointer t21_5 : Value) ∧
  Calls Try.prog 45 #[] w_6 fun e w_8 => ∃ (t22_7 : Option Addr), e = .returned (.pointer t22_7 : Value) ∧
  ((t20_3 = false →
  K false w_8) ∧
  (t20_3 = true →
  ((t21_5.isNone = true →
  K false w_8) ∧
  (t21_5.isNone = false →
  ((t22_7.isNone = true →
  K false w_8) ∧
  (t22_7.isNone = false →
  ((often1_2 < 0 →
  F8_j1 l0_1 K t21_5 t22_7 (IntKind.i64.wrap (0 - (IntKind.i64.wrap (often1_2 + 1)))) w_8) ∧
  (¬ (often1_2 < 0) →
  F8_j1 l0_1 K t21_5 t22_7 often1_2 w_8))))))))
set_option maxHeartbeats 4000000 in
set_option maxRecDepth 20000 in
theorem F8_sound (l0_1 : Sl) (often1_2 : Int) (K : Bool → World → Prop) (w : World) (h : F8 l0_1 often1_2 K w) :
    Calls Try.prog 8 #[.slice l0_1.a l0_1.n l0_1.c, .int .i64 often1_2] w (fun e w1 => ∃ (r0 : Bool), e = .returned (.bool r0 : Value) ∧ K r0 w1) := by
  unfold F8 at h
  refine y_enter (n := 160) (args := [.slice l0_1.a l0_1.n l0_1.c, .int .i64 often1_2]) Try.func8 rfl rfl rfl fun Q0 hQ0 => ?_
  refine y_seq fun K1 hK1 => ?_
  refine y_region ?_
  refine y_k (.bool false : Value) w rfl rfl rfl (by kernel_rfl) ?_
  refine y_nil ?_
  refine y_then (hK1 _ _ ?_)
  refine y_seq fun K2 hK2 => ?_
  refine y_region ?_
  refine y_call rfl rfl rfl (by kernel_rfl) (h.mono ?_)
  rintro _ w_4 ⟨t20_3, rfl, h⟩
  refine ⟨_, rfl, ?_⟩
  refine y_k (.bool t20_3 : Value) w_4 rfl rfl rfl (by kernel_rfl) ?_
  refine y_nil ?_
  refine y_then (hK2 _ _ ?_)
  refine y_seq fun K3 hK3 => ?_
  refine y_region ?_
  refine y_call rfl rfl rfl (by kernel_rfl) (h.mono ?_)
  rintro _ w_6 ⟨t21_5, rfl, h⟩
  refine ⟨_, rfl, ?_⟩
  refine y_k (.pointer t21_5 : Value) w_6 rfl rfl rfl (by kernel_rfl) ?_
  refine y_nil ?_
  refine y_then (hK3 _ _ ?_)
  refine y_seq fun K4 hK4 => ?_
  refine y_region ?_
  refine y_call rfl rfl rfl (by kernel_rfl) (h.mono ?_)
  rintro _ w_8 ⟨t22_7, rfl, h⟩
  refine ⟨_, rfl, ?_⟩
  refine y_k (.pointer t22_7 : Value) w_8 rfl rfl rfl (by kernel_rfl) ?_
  refine y_nil ?_
  refine y_then (hK4 _ _ ?_)
  refine y_seq fun K5 hK5 => ?_
  refine y_seq fun K6 hK6 => ?_
  refine y_region ?_
  refine y_k (.bool t20_3 : Value) w_8 rfl rfl rfl (by kernel_rfl) ?_
  refine y_k (.bool (!(t20_3)) : Value) w_8 rfl rfl rfl (by kernel_rfl) ?_
  refine y_k (.bool (!(t20_3)) : Value) w_8 rfl rfl rfl (by kernel_rfl) ?_
  refine y_fork (!(t20_3)) (fun hb7 => ?_) (fun hb7 => ?_)
  · replace h := h.1 ((not_true_of hb7))
    refine y_frame (upd_id (i := 25) (v := .bool true) rfl (congrArg Value.bool hb7)) ?_
    refine y_gno rfl rfl rfl rfl ?_
    refine y_gno rfl rfl rfl rfl ?_
    refine y_k (.bool true : Value) w_8 rfl rfl rfl (by kernel_rfl) ?_
    refine y_k (.bool true : Value) w_8 rfl rfl rfl (by kernel_rfl) ?_
    refine y_gno rfl rfl rfl rfl ?_
    refine y_gno rfl rfl rfl rfl ?_
    refine y_k (.bool true : Value) w_8 rfl rfl rfl (by kernel_rfl) ?_
    refine y_nil ?_
    refine y_then (hK6 _ _ ?_)
    refine y_cond_t rfl rfl ?_
    refine y_seq fun K8 hK8 => ?_
    refine y_region ?_
    refine y_k (.bool false : Value) w_8 rfl rfl rfl (by kernel_rfl) ?_
    refine y_nil ?_
    refine y_then (hK8 _ _ ?_)
    refine y_ret ?_
    repeat (first | refine e_then_r ?_ | refine e_block_r ?_)
    exact (hQ0 _ _ _ (res1 (v := (.bool false : Value)) rfl rfl rfl) ⟨_, rfl, h⟩).1
  · replace h := h.2 ((not_false_of hb7))
    refine y_frame (upd_id (i := 25) (v := .bool false) rfl (congrArg Value.bool hb7)) ?_
    refine y_gyes rfl rfl rfl ?_
    refine y_k (.pointer t21_5 : Value) w_8 rfl rfl rfl (by kernel_rfl) ?_
    refine y_gyes rfl rfl rfl ?_
    refine y_v (v := (.bool t21_5.isNone : Value)) (s := do eqGuard .eql 55 (Operand.tmp 26) (Operand.const (Value.pointer none)) (.pointer t21_5 : Value) (.pointer none : Value); binOp .eql 55 (.pointer t21_5 : Value) (.pointer none : Value)) rfl rfl rfl (by kernel_rfl) (run_eql_ptrnil (by kernel_rfl)) ?_
    refine y_k (.bool t21_5.isNone : Value) w_8 rfl rfl rfl (by kernel_rfl) ?_
    refine y_k (.bool t21_5.isNone : Value) w_8 rfl rfl rfl (by kernel_rfl) ?_
    refine y_fork (t21_5.isNone) (fun hb9 => ?_) (fun hb9 => ?_)
    · replace h := h.1 (hb9)
      refine y_frame (upd_id (i := 29) (v := .bool true) rfl (congrArg Value.bool hb9)) ?_
      refine y_gno rfl rfl rfl rfl ?_
      refine y_gno rfl rfl rfl rfl ?_
      refine y_k (.bool true : Value) w_8 rfl rfl rfl (by kernel_rfl) ?_
      refine y_nil ?_
      refine y_then (hK6 _ _ ?_)
      refine y_cond_t rfl rfl ?_
      refine y_seq fun K10 hK10 => ?_
      refine y_region ?_
      refine y_k (.bool false : Value) w_8 rfl rfl rfl (by kernel_rfl) ?_
      refine y_nil ?_
      refine y_then (hK10 _ _ ?_)
      refine y_ret ?_
      repeat (first | refine e_then_r ?_ | refine e_block_r ?_)
      exact (hQ0 _ _ _ (res1 (v := (.bool false : Value)) rfl rfl rfl) ⟨_, rfl, h⟩).1
    · replace h := h.2 (hb9)
      refine y_frame (upd_id (i := 29) (v := .bool false) rfl (congrArg Value.bool hb9)) ?_
      refine y_gyes rfl rfl rfl ?_
      refine y_k (.pointer t22_7 : Value) w_8 rfl rfl rfl (by kernel_rfl) ?_
      refine y_gyes rfl rfl rfl ?_
      refine y_v (v := (.bool t22_7.isNone : Value)) (s := do eqGuard .eql 55 (Operand.tmp 30) (Operand.const (Value.pointer none)) (.pointer t22_7 : Value) (.pointer none : Value); binOp .eql 55 (.pointer t22_7 : Value) (.pointer none : Value)) rfl rfl rfl (by kernel_rfl) (run_eql_ptrnil (by kernel_rfl)) ?_
      refine y_k (.bool t22_7.isNone : Value) w_8 rfl rfl rfl (by kernel_rfl) ?_
      refine y_nil ?_
      refine y_then (hK6 _ _ ?_)
      refine y_cond (t22_7.isNone) rfl rfl (fun hb97 => ?_) (fun hb97 => ?_)
      · replace h := h.1 (hb97)
        refine y_seq fun K11 hK11 => ?_
        refine y_region ?_
        refine y_k (.bool false : Value) w_8 rfl rfl rfl (by kernel_rfl) ?_
        refine y_nil ?_
        refine y_then (hK11 _ _ ?_)
        refine y_ret ?_
        repeat (first | refine e_then_r ?_ | refine e_block_r ?_)
        exact (hQ0 _ _ _ (res1 (v := (.bool false : Value)) rfl rfl rfl) ⟨_, rfl, h⟩).1
      · replace h := h.2 (hb97)
        refine y_skip ?_
        refine y_then (hK5 _ _ ?_)
        refine y_seq fun K12 hK12 => ?_
        have hjK12 : ∀ (f : Fr) (often1_9 : Int) (w_10 : World), f 0 = (.slice l0_1.a l0_1.n l0_1.c : Value) → f 1 = (.int .i64 often1_9 : Value) → f 6 = (.pointer t21_5 : Value) → f 7 = (.pointer t22_7 : Value) → F8_j1 l0_1 K t21_5 t22_7 often1_9 w_10 → WK K12 160 f w_10 := by
          intro f often1_9 w_10 e0 e1 e6 e7 h
          refine y_atf (upd_id (upd_id (upd_id (upd_id rfl e0) e1) e6) e7) ?_
          clear e0 e1 e6 e7
          unfold F8_j1 at h
          refine hK12 _ _ ?_
          refine y_seq fun K14 hK14 => ?_
          refine y_region ?_
          refine y_call rfl rfl rfl (by kernel_rfl) (h.mono ?_)
          rintro _ w_12 ⟨t38_11, rfl, h⟩
          refine ⟨_, rfl, ?_⟩
          refine y_k (.pointer t38_11 : Value) w_12 rfl rfl rfl (by kernel_rfl) ?_
          refine y_nil ?_
          refine y_then (hK14 _ _ ?_)
          refine y_seq fun K15 hK15 => ?_
          refine y_region ?_
          refine y_call rfl rfl rfl (by kernel_rfl) (h.mono ?_)
          rintro _ w_14 ⟨t39_13, rfl, h⟩
          refine ⟨_, rfl, ?_⟩
          refine y_k (.pointer t39_13 : Value) w_14 rfl rfl rfl (by kernel_rfl) ?_
          refine y_nil ?_
          refine y_then (hK15 _ _ ?_)
          refine y_seq fun K16 hK16 => ?_
          refine y_region ?_
          refine y_k (.slice l0_1.a l0_1.n l0_1.c : Value) w_14 rfl rfl rfl (by kernel_rfl) ?_
          refine y_k (.int .i64 ((l0_1.n : Int)) : Value) w_14 rfl rfl rfl (by kernel_rfl) ?_
          refine y_v (v := (.int .i64 ((if 200 < ((l0_1.n : Int)) then 200 else ((l0_1.n : Int)))) : Value)) (s := Builtin.min_ #[3, 3] 3 #[.int .i64 ((l0_1.n : Int)), .int .i64 200]) rfl rfl rfl (by kernel_rfl) (run_min2) ?_
          refine y_k (.int .i64 ((if 200 < ((l0_1.n : Int)) then 200 else ((l0_1.n : Int)))) : Value) w_14 rfl rfl rfl (by kernel_rfl) ?_
          refine y_nil ?_
          refine y_then (hK16 _ _ ?_)
          refine y_seq fun K17 hK17 => ?_
          refine y_seq fun K18 hK18 => ?_
          refine y_region ?_
          refine y_k (.int .i64 0 : Value) w_14 rfl rfl rfl (by kernel_rfl) ?_
          refine y_nil ?_
          refine y_then (hK18 _ _ ?_)
          refine y_block ?_
          refine y_loop (S := Int) (fun s j => match s with | (i11_15) => upd (upd (upd (upd (upd (upd (upd (upd (j) 0 (.slice l0_1.a l0_1.n l0_1.c : Value)) 1 (.int .i64 often1_9 : Value)) 6 (.pointer t21_5 : Value)) 7 (.pointer t22_7 : Value)) 8 (.pointer t38_11 : Value)) 9 (.pointer t39_13 : Value)) 10 (.int .i64 ((if 200 < ((l0_1.n : Int)) then 200 else ((l0_1.n : Int)))) : Value)) 11 (.int .i64 i11_15 : Value)) (0) ?_ h ?_
          · dsimp only
            refine upd_id ?_ rfl
            refine upd_id ?_ rfl
            refine upd_id ?_ rfl
            refine upd_id ?_ rfl
            refine upd_id ?_ rfl
            refine upd_id ?_ rfl
            refine upd_id ?_ rfl
            refine upd_id ?_ rfl
            rfl
          rintro KN21 next20 hN21 i11_15 j w_16 h
          unfold F8_l2 at h
          refine y_seq fun K22 hK22 => ?_
          refine y_seq fun K23 hK23 => ?_
          refine y_region ?_
          refine y_k (.int .i64 i11_15 : Value) w_16 rfl rfl rfl (by kernel_rfl) ?_
          refine y_k (.int .i64 ((if 200 < ((l0_1.n : Int)) then 200 else ((l0_1.n : Int)))) : Value) w_16 rfl rfl rfl (by kernel_rfl) ?_
          refine y_k (.bool (decide (i11_15 < ((if 200 < ((l0_1.n : Int)) then 200 else ((l0_1.n : Int)))))) : Value) w_16 rfl rfl rfl (by kernel_rfl) ?_
          refine y_nil ?_
          refine y_then (hK23 _ _ ?_)
          refine y_cond (decide (i11_15 < ((if 200 < ((l0_1.n : Int)) then 200 else ((l0_1.n : Int)))))) rfl rfl (fun hb95 => ?_) (fun hb95 => ?_)
          · replace h := h.1 (of_decide_eq_true hb95)
            refine y_skip ?_
            refine y_then (hK22 _ _ ?_)
            refine y_seq fun K24 hK24 => ?_
            refine y_block ?_
            refine y_seq fun K26 hK26 => ?_
            refine q_region (by kernel_rfl) (by kernel_rfl) fun Qq27 hQq27 => ?_
            refine q_k (.slice l0_1.a l0_1.n l0_1.c : Value) rfl rfl rfl (fun _ => by kernel_rfl) ?_
            refine q_k (.int .i64 i11_15 : Value) rfl rfl rfl (fun _ => by kernel_rfl) ?_
            obtain ⟨hx28a, hx28b, a_17, hx28, h⟩ := h
            refine q_v (v := (.pointer (some (a_17.add (Int.toNat i11_15))) : Value)) (s := Instr.indexAt 54 (.slice l0_1.a l0_1.n l0_1.c : Value) (.int .i64 i11_15 : Value)) rfl rfl rfl (by kernel_rfl) (fun _ => run_ixs1 (el := 33) (by kernel_rfl) (by kernel_rfl) hx28 hx28a hx28b) ?_
            obtain ⟨t51_18, hx29, h⟩ := h
            refine q_v (v := (.slice t51_18.a t51_18.n t51_18.c : Value)) (s := Instr.loadAt 33 (.pointer (some (a_17.add (Int.toNat i11_15))))) rfl rfl rfl (by kernel_rfl) (fun _ => rn_load (by kernel_rfl) hx29) ?_
            refine q_k (.slice l0_1.a l0_1.n l0_1.c : Value) rfl rfl rfl (fun _ => by kernel_rfl) ?_
            refine q_k (.int .i64 i11_15 : Value) rfl rfl rfl (fun _ => by kernel_rfl) ?_
            obtain ⟨hx30a, hx30b, a_19, hx30, h⟩ := h
            refine q_v (v := (.pointer (some (a_19.add (Int.toNat i11_15))) : Value)) (s := Instr.indexAt 54 (.slice l0_1.a l0_1.n l0_1.c : Value) (.int .i64 i11_15 : Value)) rfl rfl rfl (by kernel_rfl) (fun _ => run_ixs1 (el := 33) (by kernel_rfl) (by kernel_rfl) hx30 hx30a hx30b) ?_
            obtain ⟨t55_20, hx31, h⟩ := h
            refine q_v (v := (.slice t55_20.a t55_20.n t55_20.c : Value)) (s := Instr.loadAt 33 (.pointer (some (a_19.add (Int.toNat i11_15))))) rfl rfl rfl (by kernel_rfl) (fun _ => rn_load (by kernel_rfl) hx31) ?_
            refine q_k (.int .i64 ((t55_20.n : Int)) : Value) rfl rfl rfl (fun _ => by kernel_rfl) ?_
            refine q_v (v := (.int .i64 ((if 2000 < ((t55_20.n : Int)) then 2000 else ((t55_20.n : Int)))) : Value)) (s := Builtin.min_ #[3, 3] 3 #[.int .i64 ((t55_20.n : Int)), .int .i64 2000]) rfl rfl rfl (by kernel_rfl) (fun _ => run_min2) ?_
            obtain ⟨t58_21, hx32, h⟩ := h
            refine q_v (v := (.slice t58_21.a t58_21.n t58_21.c : Value)) (s := Instr.sliceAt 33 (.slice t51_18.a t51_18.n t51_18.c : Value) none (some (.int .i64 ((if 2000 < ((t55_20.n : Int)) then 2000 else ((t55_20.n : Int)))) : Value)) none) rfl rfl rfl (by kernel_rfl) (fun _ => (hx32 _)) ?_
            refine q_k (.slice t58_21.a t58_21.n t58_21.c : Value) rfl rfl rfl (fun _ => by kernel_rfl) ?_
            refine q_nil (hQq27 _ fun m90 => ?_)
            replace h := h _ ⟨m90, rfl⟩
            generalize w_16.drewN m90 = w_22 at h ⊢
            refine y_then (hK26 _ _ ?_)
            refine y_seq fun K33 hK33 => ?_
            refine q_region (by kernel_rfl) (by kernel_rfl) fun Qq34 hQq34 => ?_
            refine q_k (.slice l0_1.a l0_1.n l0_1.c : Value) rfl rfl rfl (fun _ => by kernel_rfl) ?_
            refine q_k (.int .i64 ((if 200 < ((l0_1.n : Int)) then 200 else ((l0_1.n : Int)))) : Value) rfl rfl rfl (fun _ => by kernel_rfl) ?_
            refine q_k (.int .i64 (IntKind.i64.wrap (((if 200 < ((l0_1.n : Int)) then 200 else ((l0_1.n : Int)))) - 1)) : Value) rfl rfl rfl (fun _ => by kernel_rfl) ?_
            refine q_k (.int .i64 i11_15 : Value) rfl rfl rfl (fun _ => by kernel_rfl) ?_
            refine q_k (.int .i64 (IntKind.i64.wrap ((IntKind.i64.wrap (((if 200 < ((l0_1.n : Int)) then 200 else ((l0_1.n : Int)))) - 1)) - i11_15)) : Value) rfl rfl rfl (fun _ => by kernel_rfl) ?_
            obtain ⟨hx35a, hx35b, a_23, hx35, h⟩ := h
            refine q_v (v := (.pointer (some (a_23.add (Int.toNat (IntKind.i64.wrap ((IntKind.i64.wrap (((if 200 < ((l0_1.n : Int)) then 200 else ((l0_1.n : Int)))) - 1)) - i11_15))))) : Value)) (s := Instr.indexAt 54 (.slice l0_1.a l0_1.n l0_1.c : Value) (.int .i64 (IntKind.i64.wrap ((IntKind.i64.wrap (((if 200 < ((l0_1.n : Int)) then 200 else ((l0_1.n : Int)))) - 1)) - i11_15)) : Value)) rfl rfl rfl (by kernel_rfl) (fun _ => run_ixs1 (el := 33) (by kernel_rfl) (by kernel_rfl) hx35 hx35a hx35b) ?_
            obtain ⟨t65_24, hx36, h⟩ := h
            refine q_v (v := (.slice t65_24.a t65_24.n t65_24.c : Value)) (s := Instr.loadAt 33 (.pointer (some (a_23.add (Int.toNat (IntKind.i64.wrap ((IntKind.i64.wrap (((if 200 < ((l0_1.n : Int)) then 200 else ((l0_1.n : Int)))) - 1)) - i11_15))))))) rfl rfl rfl (by kernel_rfl) (fun _ => rn_load (by kernel_rfl) hx36) ?_
            refine q_k (.slice l0_1.a l0_1.n l0_1.c : Value) rfl rfl rfl (fun _ => by kernel_rfl) ?_
            refine q_k (.int .i64 ((if 200 < ((l0_1.n : Int)) then 200 else ((l0_1.n : Int)))) : Value) rfl rfl rfl (fun _ => by kernel_rfl) ?_
            refine q_k (.int .i64 (IntKind.i64.wrap (((if 200 < ((l0_1.n : Int)) then 200 else ((l0_1.n : Int)))) - 1)) : Value) rfl rfl rfl (fun _ => by kernel_rfl) ?_
            refine q_k (.int .i64 i11_15 : Value) rfl rfl rfl (fun _ => by kernel_rfl) ?_
            refine q_k (.int .i64 (IntKind.i64.wrap ((IntKind.i64.wrap (((if 200 < ((l0_1.n : Int)) then 200 else ((l0_1.n : Int)))) - 1)) - i11_15)) : Value) rfl rfl rfl (fun _ => by kernel_rfl) ?_
            obtain ⟨hx37a, hx37b, a_25, hx37, h⟩ := h
            refine q_v (v := (.pointer (some (a_25.add (Int.toNat (IntKind.i64.wrap ((IntKind.i64.wrap (((if 200 < ((l0_1.n : Int)) then 200 else ((l0_1.n : Int)))) - 1)) - i11_15))))) : Value)) (s := Instr.indexAt 54 (.slice l0_1.a l0_1.n l0_1.c : Value) (.int .i64 (IntKind.i64.wrap ((IntKind.i64.wrap (((if 200 < ((l0_1.n : Int)) then 200 else ((l0_1.n : Int)))) - 1)) - i11_15)) : Value)) rfl rfl rfl (by kernel_rfl) (fun _ => run_ixs1 (el := 33) (by kernel_rfl) (by kernel_rfl) hx37 hx37a hx37b) ?_
            obtain ⟨t72_26, hx38, h⟩ := h
            refine q_v (v := (.slice t72_26.a t72_26.n t72_26.c : Value)) (s := Instr.loadAt 33 (.pointer (some (a_25.add (Int.toNat (IntKind.i64.wrap ((IntKind.i64.wrap (((if 200 < ((l0_1.n : Int)) then 200 else ((l0_1.n : Int)))) - 1)) - i11_15))))))) rfl rfl rfl (by kernel_rfl) (fun _ => rn_load (by kernel_rfl) hx38) ?_
            refine q_k (.int .i64 ((t72_26.n : Int)) : Value) rfl rfl rfl (fun _ => by kernel_rfl) ?_
            refine q_v (v := (.int .i64 ((if 2000 < ((t72_26.n : Int)) then 2000 else ((t72_26.n : Int)))) : Value)) (s := Builtin.min_ #[3, 3] 3 #[.int .i64 ((t72_26.n : Int)), .int .i64 2000]) rfl rfl rfl (by kernel_rfl) (fun _ => run_min2) ?_
            obtain ⟨t75_27, hx39, h⟩ := h
            refine q_v (v := (.slice t75_27.a t75_27.n t75_27.c : Value)) (s := Instr.sliceAt 33 (.slice t65_24.a t65_24.n t65_24.c : Value) none (some (.int .i64 ((if 2000 < ((t72_26.n : Int)) then 2000 else ((t72_26.n : Int)))) : Value)) none) rfl rfl rfl (by kernel_rfl) (fun _ => (hx39 _)) ?_
            refine q_k (.slice t75_27.a t75_27.n t75_27.c : Value) rfl rfl rfl (fun _ => by kernel_rfl) ?_
            refine q_nil (hQq34 _ fun m89 => ?_)
            replace h := h _ ⟨m89, rfl⟩
            generalize w_22.drewN m89 = w_28 at h ⊢
            refine y_then (hK33 _ _ ?_)
            refine y_seq fun K40 hK40 => ?_
            refine y_region ?_
            refine y_k (.slice t58_21.a t58_21.n t58_21.c : Value) w_28 rfl rfl rfl (by kernel_rfl) ?_
            refine y_call rfl rfl rfl (by kernel_rfl) (h.mono ?_)
            rintro _ w_30 ⟨t77_29, rfl, h⟩
            refine ⟨_, rfl, ?_⟩
            refine y_k (.slice t77_29.a t77_29.n t77_29.c : Value) w_30 rfl rfl rfl (by kernel_rfl) ?_
            refine y_nil ?_
            refine y_then (hK40 _ _ ?_)
            refine y_seq fun K41 hK41 => ?_
            refine y_region ?_
            refine y_k (.slice t75_27.a t75_27.n t75_27.c : Value) w_30 rfl rfl rfl (by kernel_rfl) ?_
            refine y_call rfl rfl rfl (by kernel_rfl) (h.mono ?_)
            rintro _ w_32 ⟨t79_31, rfl, h⟩
            refine ⟨_, rfl, ?_⟩
            refine y_k (.slice t79_31.a t79_31.n t79_31.c : Value) w_32 rfl rfl rfl (by kernel_rfl) ?_
            refine y_nil ?_
            refine y_then (hK41 _ _ ?_)
            refine y_seq fun K42 hK42 => ?_
            refine y_region ?_
            refine y_k (.pointer t21_5 : Value) w_32 rfl rfl rfl (by kernel_rfl) ?_
            refine y_k (.slice t77_29.a t77_29.n t77_29.c : Value) w_32 rfl rfl rfl (by kernel_rfl) ?_
            refine y_k (.slice t58_21.a t58_21.n t58_21.c : Value) w_32 rfl rfl rfl (by kernel_rfl) ?_
            refine y_k (.int .i64 ((t58_21.n : Int)) : Value) w_32 rfl rfl rfl (by kernel_rfl) ?_
            obtain ⟨t84_33, hx43, h⟩ := h
            refine y_v (s := Instr.sliceAt 33 (.slice t77_29.a t77_29.n t77_29.c : Value) none (some (.int .i64 ((t58_21.n : Int)) : Value)) none) rfl rfl rfl (by kernel_rfl) (hx43) ?_
            refine y_call rfl rfl rfl (by kernel_rfl) (h.mono ?_)
            rintro _ w_34 ⟨rfl, h⟩
            refine ⟨_, rfl, ?_⟩
            refine y_nil ?_
            refine y_then (hK42 _ _ ?_)
            refine y_seq fun K44 hK44 => ?_
            refine y_region ?_
            refine y_k (.pointer t22_7 : Value) w_34 rfl rfl rfl (by kernel_rfl) ?_
            refine y_k (.slice t79_31.a t79_31.n t79_31.c : Value) w_34 rfl rfl rfl (by kernel_rfl) ?_
            refine y_k (.slice t75_27.a t75_27.n t75_27.c : Value) w_34 rfl rfl rfl (by kernel_rfl) ?_
            refine y_k (.int .i64 ((t75_27.n : Int)) : Value) w_34 rfl rfl rfl (by kernel_rfl) ?_
            obtain ⟨t90_35, hx45, h⟩ := h
            refine y_v (s := Instr.sliceAt 33 (.slice t79_31.a t79_31.n t79_31.c : Value) none (some (.int .i64 ((t75_27.n : Int)) : Value)) none) rfl rfl rfl (by kernel_rfl) (hx45) ?_
            refine y_call rfl rfl rfl (by kernel_rfl) (h.mono ?_)
            rintro _ w_36 ⟨rfl, h⟩
            refine ⟨_, rfl, ?_⟩
            refine y_nil ?_
            refine y_then (hK44 _ _ ?_)
            refine y_seq fun K46 hK46 => ?_
            refine y_region ?_
            refine y_k (.slice t77_29.a t77_29.n t77_29.c : Value) w_36 rfl rfl rfl (by kernel_rfl) ?_
            refine y_k (.slice t58_21.a t58_21.n t58_21.c : Value) w_36 rfl rfl rfl (by kernel_rfl) ?_
            refine y_call rfl rfl rfl (by kernel_rfl) (h.mono ?_)
            rintro _ w_38 ⟨t94_37, rfl, h⟩
            refine ⟨_, rfl, ?_⟩
            refine y_k (.bool t94_37 : Value) w_38 rfl rfl rfl (by kernel_rfl) ?_
            refine y_nil ?_
            refine y_then (hK46 _ _ ?_)
            refine y_seq fun K47 hK47 => ?_
            refine y_region ?_
            refine y_k (.slice t79_31.a t79_31.n t79_31.c : Value) w_38 rfl rfl rfl (by kernel_rfl) ?_
            refine y_k (.slice t75_27.a t75_27.n t75_27.c : Value) w_38 rfl rfl rfl (by kernel_rfl) ?_
            refine y_call rfl rfl rfl (by kernel_rfl) (h.mono ?_)
            rintro _ w_40 ⟨t97_39, rfl, h⟩
            refine ⟨_, rfl, ?_⟩
            refine y_k (.bool t97_39 : Value) w_40 rfl rfl rfl (by kernel_rfl) ?_
            refine y_nil ?_
            refine y_then (hK47 _ _ ?_)
            refine y_seq fun K48 hK48 => ?_
            refine y_seq fun K49 hK49 => ?_
            refine y_region ?_
            refine y_k (.bool t94_37 : Value) w_40 rfl rfl rfl (by kernel_rfl) ?_
            refine y_k (.bool (!(t94_37)) : Value) w_40 rfl rfl rfl (by kernel_rfl) ?_
            refine y_k (.bool (!(t94_37)) : Value) w_40 rfl rfl rfl (by kernel_rfl) ?_
            refine y_fork (!(t94_37)) (fun hb50 => ?_) (fun hb50 => ?_)
            · replace h := h.1 ((not_true_of hb50))
              refine y_frame (upd_id (i := 100) (v := .bool true) rfl (congrArg Value.bool hb50)) ?_
              refine y_gno rfl rfl rfl rfl ?_
              refine y_gno rfl rfl rfl rfl ?_
              refine y_k (.bool true : Value) w_40 rfl rfl rfl (by kernel_rfl) ?_
              refine y_nil ?_
              refine y_then (hK49 _ _ ?_)
              refine y_cond_t rfl rfl ?_
              refine y_seq fun K51 hK51 => ?_
              refine y_region ?_
              refine y_k (.bool false : Value) w_40 rfl rfl rfl (by kernel_rfl) ?_
              refine y_nil ?_
              refine y_then (hK51 _ _ ?_)
              refine y_ret ?_
              repeat (first | refine e_then_r ?_ | refine e_block_r ?_)
              exact (hQ0 _ _ _ (res1 (v := (.bool false : Value)) rfl rfl rfl) ⟨_, rfl, h⟩).1
            · replace h := h.2 ((not_false_of hb50))
              refine y_frame (upd_id (i := 100) (v := .bool false) rfl (congrArg Value.bool hb50)) ?_
              refine y_gyes rfl rfl rfl ?_
              refine y_k (.bool t97_39 : Value) w_40 rfl rfl rfl (by kernel_rfl) ?_
              refine y_gyes rfl rfl rfl ?_
              refine y_k (.bool (!(t97_39)) : Value) w_40 rfl rfl rfl (by kernel_rfl) ?_
              refine y_k (.bool (!(t97_39)) : Value) w_40 rfl rfl rfl (by kernel_rfl) ?_
              refine y_nil ?_
              refine y_then (hK49 _ _ ?_)
              refine y_cond (!(t97_39)) rfl rfl (fun hb88 => ?_) (fun hb88 => ?_)
              · replace h := h.1 ((not_true_of hb88))
                refine y_seq fun K52 hK52 => ?_
                refine y_region ?_
                refine y_k (.bool false : Value) w_40 rfl rfl rfl (by kernel_rfl) ?_
                refine y_nil ?_
                refine y_then (hK52 _ _ ?_)
                refine y_ret ?_
                repeat (first | refine e_then_r ?_ | refine e_block_r ?_)
                exact (hQ0 _ _ _ (res1 (v := (.bool false : Value)) rfl rfl rfl) ⟨_, rfl, h⟩).1
              · replace h := h.2 ((not_false_of hb88))
                refine y_skip ?_
                refine y_then (hK48 _ _ ?_)
                refine y_seq fun K53 hK53 => ?_
                refine y_seq fun K54 hK54 => ?_
                refine y_region ?_
                refine y_k (.int .i64 0 : Value) w_40 rfl rfl rfl (by kernel_rfl) ?_
                refine y_nil ?_
                refine y_then (hK54 _ _ ?_)
                refine y_block ?_
                refine y_loop (S := Int) (fun s j => match s with | (k18_41) => upd (upd (upd (upd (upd (upd (upd (upd (upd (upd (upd (upd (upd (j) 0 (.slice l0_1.a l0_1.n l0_1.c : Value)) 1 (.int .i64 often1_9 : Value)) 6 (.pointer t21_5 : Value)) 7 (.pointer t22_7 : Value)) 8 (.pointer t38_11 : Value)) 9 (.pointer t39_13 : Value)) 10 (.int .i64 ((if 200 < ((l0_1.n : Int)) then 200 else ((l0_1.n : Int)))) : Value)) 11 (.int .i64 i11_15 : Value)) 12 (.slice t58_21.a t58_21.n t58_21.c : Value)) 13 (.slice t75_27.a t75_27.n t75_27.c : Value)) 14 (.slice t77_29.a t77_29.n t77_29.c : Value)) 15 (.slice t79_31.a t79_31.n t79_31.c : Value)) 18 (.int .i64 k18_41 : Value)) (0) ?_ h ?_
                · dsimp only
                  refine upd_id ?_ rfl
                  refine upd_id ?_ rfl
                  refine upd_id ?_ rfl
                  refine upd_id ?_ rfl
                  refine upd_id ?_ rfl
                  refine upd_id ?_ rfl
                  refine upd_id ?_ rfl
                  refine upd_id ?_ rfl
                  refine upd_id ?_ rfl
                  refine upd_id ?_ rfl
                  refine upd_id ?_ rfl
                  refine upd_id ?_ rfl
                  refine upd_id ?_ rfl
                  rfl
                rintro KN57 next56 hN57 k18_41 j w_42 h
                unfold F8_l3 at h
                refine y_seq fun K58 hK58 => ?_
                refine y_seq fun K59 hK59 => ?_
                refine y_region ?_
                refine y_k (.int .i64 k18_41 : Value) w_42 rfl rfl rfl (by kernel_rfl) ?_
                refine y_k (.slice t77_29.a t77_29.n t77_29.c : Value) w_42 rfl rfl rfl (by kernel_rfl) ?_
                refine y_k (.int .i64 ((t77_29.n : Int)) : Value) w_42 rfl rfl rfl (by kernel_rfl) ?_
                refine y_k (.bool (decide (k18_41 < ((t77_29.n : Int)))) : Value) w_42 rfl rfl rfl (by kernel_rfl) ?_
                refine y_nil ?_
                refine y_then (hK59 _ _ ?_)
                refine y_cond (decide (k18_41 < ((t77_29.n : Int)))) rfl rfl (fun hb87 => ?_) (fun hb87 => ?_)
                · replace h := h.1 (of_decide_eq_true hb87)
                  refine y_skip ?_
                  refine y_then (hK58 _ _ ?_)
                  refine y_seq fun K60 hK60 => ?_
                  refine y_block ?_
                  refine y_region ?_
                  refine y_k (.slice t77_29.a t77_29.n t77_29.c : Value) w_42 rfl rfl rfl (by kernel_rfl) ?_
                  refine y_k (.int .i64 k18_41 : Value) w_42 rfl rfl rfl (by kernel_rfl) ?_
                  obtain ⟨hx62a, hx62b, a_43, hx62, h⟩ := h
                  refine y_v (v := (.pointer (some (a_43.add (Int.toNat k18_41))) : Value)) (s := Instr.indexAt 33 (.slice t77_29.a t77_29.n t77_29.c : Value) (.int .i64 k18_41 : Value)) rfl rfl rfl (by kernel_rfl) (run_ixs1 (el := 5) (by kernel_rfl) (by kernel_rfl) hx62 hx62a hx62b) ?_
                  obtain ⟨hx63, h⟩ := h
                  replace h := h _ rfl
                  refine y_u (s := Instr.storeAt 5 (.pointer (some (a_43.add (Int.toNat k18_41)))) (.int .u8 7 : Value)) rfl rfl (by kernel_rfl) (rn_store1 (by kernel_rfl) rfl hx63) ?_
                  generalize w_42.setCell (a_43.add (Int.toNat k18_41)) (.int .u8 7 : Value) = w_44 at h ⊢
                  refine y_nil ?_
                  refine e_block_n ?_
                  refine y_then (hK60 _ _ ?_)
                  refine y_region ?_
                  refine y_k (.int .i64 k18_41 : Value) w_44 rfl rfl rfl (by kernel_rfl) ?_
                  refine y_k (.int .i64 (IntKind.i64.wrap (k18_41 + 1)) : Value) w_44 rfl rfl rfl (by kernel_rfl) ?_
                  refine y_k (.int .i64 (IntKind.i64.wrap (k18_41 + 1)) : Value) w_44 rfl rfl rfl (by kernel_rfl) ?_
                  refine y_nil ?_
                  refine y_then (hN57 (IntKind.i64.wrap (k18_41 + 1)) _ _ h ?_)
                  dsimp only
                  refine upd_id ?_ rfl
                  refine upd_id ?_ rfl
                  refine upd_id ?_ rfl
                  refine upd_id ?_ rfl
                  refine upd_id ?_ rfl
                  refine upd_id ?_ rfl
                  refine upd_id ?_ rfl
                  refine upd_id ?_ rfl
                  refine upd_id ?_ rfl
                  refine upd_id ?_ rfl
                  refine upd_id ?_ rfl
                  refine upd_id ?_ rfl
                  refine upd_id ?_ rfl
                  rfl
                · replace h := h.2 (of_decide_eq_false hb87)
                  refine y_exit ?_
                  repeat (first | refine e_then_x ?_ | refine e_block_y rfl ?_)
                  refine e_block_x ?_
                  refine y_then (hK53 _ _ ?_)
                  refine y_seq fun K64 hK64 => ?_
                  refine y_seq fun K65 hK65 => ?_
                  refine y_region ?_
                  refine y_k (.int .i64 0 : Value) w_42 rfl rfl rfl (by kernel_rfl) ?_
                  refine y_nil ?_
                  refine y_then (hK65 _ _ ?_)
                  refine y_block ?_
                  refine y_loop (S := Int) (fun s j => match s with | (k19_45) => upd (upd (upd (upd (upd (upd (upd (upd (upd (upd (upd (upd (j) 0 (.slice l0_1.a l0_1.n l0_1.c : Value)) 1 (.int .i64 often1_9 : Value)) 6 (.pointer t21_5 : Value)) 7 (.pointer t22_7 : Value)) 8 (.pointer t38_11 : Value)) 9 (.pointer t39_13 : Value)) 10 (.int .i64 ((if 200 < ((l0_1.n : Int)) then 200 else ((l0_1.n : Int)))) : Value)) 11 (.int .i64 i11_15 : Value)) 12 (.slice t58_21.a t58_21.n t58_21.c : Value)) 13 (.slice t75_27.a t75_27.n t75_27.c : Value)) 15 (.slice t79_31.a t79_31.n t79_31.c : Value)) 19 (.int .i64 k19_45 : Value)) (0) ?_ h ?_
                  · dsimp only
                    refine upd_id ?_ rfl
                    refine upd_id ?_ rfl
                    refine upd_id ?_ rfl
                    refine upd_id ?_ rfl
                    refine upd_id ?_ rfl
                    refine upd_id ?_ rfl
                    refine upd_id ?_ rfl
                    refine upd_id ?_ rfl
                    refine upd_id ?_ rfl
                    refine upd_id ?_ rfl
                    refine upd_id ?_ rfl
                    refine upd_id ?_ rfl
                    rfl
                  rintro KN68 next67 hN68 k19_45 j w_46 h
                  unfold F8_l4 at h
                  refine y_seq fun K69 hK69 => ?_
                  refine y_seq fun K70 hK70 => ?_
                  refine y_region ?_
                  refine y_k (.int .i64 k19_45 : Value) w_46 rfl rfl rfl (by kernel_rfl) ?_
                  refine y_k (.slice t79_31.a t79_31.n t79_31.c : Value) w_46 rfl rfl rfl (by kernel_rfl) ?_
                  refine y_k (.int .i64 ((t79_31.n : Int)) : Value) w_46 rfl rfl rfl (by kernel_rfl) ?_
                  refine y_k (.bool (decide (k19_45 < ((t79_31.n : Int)))) : Value) w_46 rfl rfl rfl (by kernel_rfl) ?_
                  refine y_nil ?_
                  refine y_then (hK70 _ _ ?_)
                  refine y_cond (decide (k19_45 < ((t79_31.n : Int)))) rfl rfl (fun hb86 => ?_) (fun hb86 => ?_)
                  · replace h := h.1 (of_decide_eq_true hb86)
                    refine y_skip ?_
                    refine y_then (hK69 _ _ ?_)
                    refine y_seq fun K71 hK71 => ?_
                    refine y_block ?_
                    refine y_region ?_
                    refine y_k (.slice t79_31.a t79_31.n t79_31.c : Value) w_46 rfl rfl rfl (by kernel_rfl) ?_
                    refine y_k (.int .i64 k19_45 : Value) w_46 rfl rfl rfl (by kernel_rfl) ?_
                    obtain ⟨hx73a, hx73b, a_47, hx73, h⟩ := h
                    refine y_v (v := (.pointer (some (a_47.add (Int.toNat k19_45))) : Value)) (s := Instr.indexAt 33 (.slice t79_31.a t79_31.n t79_31.c : Value) (.int .i64 k19_45 : Value)) rfl rfl rfl (by kernel_rfl) (run_ixs1 (el := 5) (by kernel_rfl) (by kernel_rfl) hx73 hx73a hx73b) ?_
                    obtain ⟨hx74, h⟩ := h
                    replace h := h _ rfl
                    refine y_u (s := Instr.storeAt 5 (.pointer (some (a_47.add (Int.toNat k19_45)))) (.int .u8 7 : Value)) rfl rfl (by kernel_rfl) (rn_store1 (by kernel_rfl) rfl hx74) ?_
                    generalize w_46.setCell (a_47.add (Int.toNat k19_45)) (.int .u8 7 : Value) = w_48 at h ⊢
                    refine y_nil ?_
                    refine e_block_n ?_
                    refine y_then (hK71 _ _ ?_)
                    refine y_region ?_
                    refine y_k (.int .i64 k19_45 : Value) w_48 rfl rfl rfl (by kernel_rfl) ?_
                    refine y_k (.int .i64 (IntKind.i64.wrap (k19_45 + 1)) : Value) w_48 rfl rfl rfl (by kernel_rfl) ?_
                    refine y_k (.int .i64 (IntKind.i64.wrap (k19_45 + 1)) : Value) w_48 rfl rfl rfl (by kernel_rfl) ?_
                    refine y_nil ?_
                    refine y_then (hN68 (IntKind.i64.wrap (k19_45 + 1)) _ _ h ?_)
                    dsimp only
                    refine upd_id ?_ rfl
                    refine upd_id ?_ rfl
                    refine upd_id ?_ rfl
                    refine upd_id ?_ rfl
                    refine upd_id ?_ rfl
                    refine upd_id ?_ rfl
                    refine upd_id ?_ rfl
                    refine upd_id ?_ rfl
                    refine upd_id ?_ rfl
                    refine upd_id ?_ rfl
                    refine upd_id ?_ rfl
                    refine upd_id ?_ rfl
                    rfl
                  · replace h := h.2 (of_decide_eq_false hb86)
                    refine y_exit ?_
                    repeat (first | refine e_then_x ?_ | refine e_block_y rfl ?_)
                    refine e_block_x ?_
                    refine y_then (hK64 _ _ ?_)
                    refine y_seq fun K75 hK75 => ?_
                    refine y_region ?_
                    refine y_k (.pointer t38_11 : Value) w_46 rfl rfl rfl (by kernel_rfl) ?_
                    refine y_k (.slice t58_21.a t58_21.n t58_21.c : Value) w_46 rfl rfl rfl (by kernel_rfl) ?_
                    refine y_call rfl rfl rfl (by kernel_rfl) (h.mono ?_)
                    rintro _ w_49 ⟨rfl, h⟩
                    refine ⟨_, rfl, ?_⟩
                    refine y_nil ?_
                    refine y_then (hK75 _ _ ?_)
                    refine y_seq fun K76 hK76 => ?_
                    refine y_region ?_
                    refine y_k (.pointer t39_13 : Value) w_49 rfl rfl rfl (by kernel_rfl) ?_
                    refine y_k (.slice t75_27.a t75_27.n t75_27.c : Value) w_49 rfl rfl rfl (by kernel_rfl) ?_
                    refine y_call rfl rfl rfl (by kernel_rfl) (h.mono ?_)
                    rintro _ w_50 ⟨rfl, h⟩
                    refine ⟨_, rfl, ?_⟩
                    refine y_nil ?_
                    refine y_then (hK76 _ _ ?_)
                    refine y_seq fun K77 hK77 => ?_
                    refine y_region ?_
                    refine y_k (.int .i64 i11_15 : Value) w_50 rfl rfl rfl (by kernel_rfl) ?_
                    refine y_k (.int .i64 often1_9 : Value) w_50 rfl rfl rfl (by kernel_rfl) ?_
                    refine y_k (.int .i64 (Int.tmod often1_9 4) : Value) w_50 rfl rfl rfl (by kernel_rfl) ?_
                    refine y_k (.int .i64 (IntKind.i64.wrap ((Int.tmod often1_9 4) + 1)) : Value) w_50 rfl rfl rfl (by kernel_rfl) ?_
                    obtain ⟨hx78, h⟩ := h
                    refine y_k (.int .i64 (Int.tmod i11_15 (IntKind.i64.wrap ((Int.tmod often1_9 4) + 1))) : Value) w_50 rfl rfl rfl (run_rem hx78 rfl rfl) ?_
                    refine y_k (.bool ((((Int.tmod i11_15 (IntKind.i64.wrap ((Int.tmod often1_9 4) + 1)))) == 0)) : Value) w_50 rfl rfl rfl (by kernel_rfl) ?_
                    refine y_k (.bool ((((Int.tmod i11_15 (IntKind.i64.wrap ((Int.tmod often1_9 4) + 1)))) == 0)) : Value) w_50 rfl rfl rfl (by kernel_rfl) ?_
                    refine y_fork ((((Int.tmod i11_15 (IntKind.i64.wrap ((Int.tmod often1_9 4) + 1)))) == 0)) (fun hb79 => ?_) (fun hb79 => ?_)
                    · replace h := h.1 (eq_of_beq hb79)
                      refine y_frame (upd_id (i := 134) (v := .bool true) rfl (congrArg Value.bool hb79)) ?_
                      refine y_gyes rfl rfl rfl ?_
                      refine y_k (.pointer t21_5 : Value) w_50 rfl rfl rfl (by kernel_rfl) ?_
                      refine y_gyes rfl rfl rfl ?_
                      refine y_call rfl rfl rfl (by kernel_rfl) (h.mono ?_)
                      rintro _ w_52 ⟨t136_51, rfl, h⟩
                      refine ⟨_, rfl, ?_⟩
                      refine y_gyes rfl rfl rfl ?_
                      refine y_k (.pointer t38_11 : Value) w_52 rfl rfl rfl (by kernel_rfl) ?_
                      refine y_gyes rfl rfl rfl ?_
                      refine y_call rfl rfl rfl (by kernel_rfl) (h.mono ?_)
                      rintro _ w_54 ⟨t138_53, rfl, h⟩
                      refine ⟨_, rfl, ?_⟩
                      refine y_gyes rfl rfl rfl ?_
                      obtain ⟨t139_55, hx80, h⟩ := h
                      refine y_v (s := do eqGuard .neq 50 (Operand.tmp 136) (Operand.tmp 138) t136_51 t138_53; binOp .neq 50 t136_51 t138_53) rfl rfl rfl (by kernel_rfl) (hx80) ?_
                      refine y_gyes rfl rfl rfl ?_
                      refine y_k (.bool t139_55 : Value) w_54 rfl rfl rfl (by kernel_rfl) ?_
                      refine y_fork (t139_55) (fun hb81 => ?_) (fun hb81 => ?_)
                      · replace h := h.1 (hb81)
                        refine y_frame (upd_id (i := 140) (v := .bool true) rfl (congrArg Value.bool hb81)) ?_
                        refine y_gno rfl rfl rfl rfl ?_
                        refine y_gno rfl rfl rfl rfl ?_
                        refine y_gno rfl rfl rfl rfl ?_
                        refine y_gno rfl rfl rfl rfl ?_
                        refine y_gno rfl rfl rfl rfl ?_
                        refine y_gyes rfl rfl rfl ?_
                        refine y_k (.bool true : Value) w_54 rfl rfl rfl (by kernel_rfl) ?_
                        refine y_k (.bool true : Value) w_54 rfl rfl rfl (by kernel_rfl) ?_
                        refine y_nil ?_
                        refine y_then (hK77 _ _ ?_)
                        refine y_cond_t rfl rfl ?_
                        refine y_seq fun K82 hK82 => ?_
                        refine y_region ?_
                        refine y_k (.bool false : Value) w_54 rfl rfl rfl (by kernel_rfl) ?_
                        refine y_nil ?_
                        refine y_then (hK82 _ _ ?_)
                        refine y_ret ?_
                        repeat (first | refine e_then_r ?_ | refine e_block_r ?_)
                        exact (hQ0 _ _ _ (res1 (v := (.bool false : Value)) rfl rfl rfl) ⟨_, rfl, h⟩).1
                      · replace h := h.2 (hb81)
                        refine y_frame (upd_id (i := 140) (v := .bool false) rfl (congrArg Value.bool hb81)) ?_
                        refine y_gyes rfl rfl rfl ?_
                        refine y_k (.pointer t21_5 : Value) w_54 rfl rfl rfl (by kernel_rfl) ?_
                        refine y_gyes rfl rfl rfl ?_
                        refine y_call rfl rfl rfl (by kernel_rfl) (h.mono ?_)
                        rintro _ w_57 ⟨t142_56, rfl, h⟩
                        refine ⟨_, rfl, ?_⟩
                        refine y_gyes rfl rfl rfl ?_
                        refine y_k (.pointer t38_11 : Value) w_57 rfl rfl rfl (by kernel_rfl) ?_
                        refine y_gyes rfl rfl rfl ?_
                        refine y_call rfl rfl rfl (by kernel_rfl) (h.mono ?_)
                        rintro _ w_59 ⟨t144_58, rfl, h⟩
                        refine ⟨_, rfl, ?_⟩
                        refine y_gyes rfl rfl rfl ?_
                        obtain ⟨t145_60, hx83, h⟩ := h
                        refine y_v (s := do eqGuard .neq 50 (Operand.tmp 142) (Operand.tmp 144) t142_56 t144_58; binOp .neq 50 t142_56 t144_58) rfl rfl rfl (by kernel_rfl) (hx83) ?_
                        refine y_gyes rfl rfl rfl ?_
                        refine y_k (.bool t145_60 : Value) w_59 rfl rfl rfl (by kernel_rfl) ?_
                        refine y_k (.bool t145_60 : Value) w_59 rfl rfl rfl (by kernel_rfl) ?_
                        refine y_nil ?_
                        refine y_then (hK77 _ _ ?_)
                        refine y_cond (t145_60) rfl rfl (fun hb85 => ?_) (fun hb85 => ?_)
                        · replace h := h.1 (hb85)
                          refine y_seq fun K84 hK84 => ?_
                          refine y_region ?_
                          refine y_k (.bool false : Value) w_59 rfl rfl rfl (by kernel_rfl) ?_
                          refine y_nil ?_
                          refine y_then (hK84 _ _ ?_)
                          refine y_ret ?_
                          repeat (first | refine e_then_r ?_ | refine e_block_r ?_)
                          exact (hQ0 _ _ _ (res1 (v := (.bool false : Value)) rfl rfl rfl) ⟨_, rfl, h⟩).1
                        · replace h := h.2 (hb85)
                          refine y_skip ?_
                          refine e_block_n ?_
                          refine y_then (hK24 _ _ ?_)
                          refine y_region ?_
                          refine y_k (.int .i64 i11_15 : Value) w_59 rfl rfl rfl (by kernel_rfl) ?_
                          refine y_k (.int .i64 (IntKind.i64.wrap (i11_15 + 1)) : Value) w_59 rfl rfl rfl (by kernel_rfl) ?_
                          refine y_k (.int .i64 (IntKind.i64.wrap (i11_15 + 1)) : Value) w_59 rfl rfl rfl (by kernel_rfl) ?_
                          refine y_nil ?_
                          refine y_then (hN21 (IntKind.i64.wrap (i11_15 + 1)) _ _ h ?_)
                          dsimp only
                          refine upd_id ?_ rfl
                          refine upd_id ?_ rfl
                          refine upd_id ?_ rfl
                          refine upd_id ?_ rfl
                          refine upd_id ?_ rfl
                          refine upd_id ?_ rfl
                          refine upd_id ?_ rfl
                          refine upd_id ?_ rfl
                          rfl
                    · replace h := h.2 (beq_eq_false_iff_ne.mp hb79)
                      refine y_frame (upd_id (i := 134) (v := .bool false) rfl (congrArg Value.bool hb79)) ?_
                      refine y_gno rfl rfl rfl rfl ?_
                      refine y_gno rfl rfl rfl rfl ?_
                      refine y_gno rfl rfl rfl rfl ?_
                      refine y_gno rfl rfl rfl rfl ?_
                      refine y_gno rfl rfl rfl rfl ?_
                      refine y_gno rfl rfl rfl rfl ?_
                      refine y_gud rfl rfl rfl rfl ?_
                      refine y_gud rfl rfl rfl rfl ?_
                      refine y_gud rfl rfl rfl rfl ?_
                      refine y_gud rfl rfl rfl rfl ?_
                      refine y_gud rfl rfl rfl rfl ?_
                      refine y_gno rfl rfl rfl rfl ?_
                      refine y_k (.bool false : Value) w_50 rfl rfl rfl (by kernel_rfl) ?_
                      refine y_nil ?_
                      refine y_then (hK77 _ _ ?_)
                      refine y_cond_f rfl rfl ?_
                      refine y_skip ?_
                      refine e_block_n ?_
                      refine y_then (hK24 _ _ ?_)
                      refine y_region ?_
                      refine y_k (.int .i64 i11_15 : Value) w_50 rfl rfl rfl (by kernel_rfl) ?_
                      refine y_k (.int .i64 (IntKind.i64.wrap (i11_15 + 1)) : Value) w_50 rfl rfl rfl (by kernel_rfl) ?_
                      refine y_k (.int .i64 (IntKind.i64.wrap (i11_15 + 1)) : Value) w_50 rfl rfl rfl (by kernel_rfl) ?_
                      refine y_nil ?_
                      refine y_then (hN21 (IntKind.i64.wrap (i11_15 + 1)) _ _ h ?_)
                      dsimp only
                      refine upd_id ?_ rfl
                      refine upd_id ?_ rfl
                      refine upd_id ?_ rfl
                      refine upd_id ?_ rfl
                      refine upd_id ?_ rfl
                      refine upd_id ?_ rfl
                      refine upd_id ?_ rfl
                      refine upd_id ?_ rfl
                      rfl
          · replace h := h.2 (of_decide_eq_false hb95)
            refine y_exit ?_
            repeat (first | refine e_then_x ?_ | refine e_block_y rfl ?_)
            refine e_block_x ?_
            refine y_then (hK17 _ _ ?_)
            refine y_seq fun K91 hK91 => ?_
            have hjK91 : ∀ (f : Fr) (t4_71 : Bool) (w_72 : World), f 4 = (.bool t4_71 : Value) → F8_j5 K t4_71 w_72 → WK K91 160 f w_72 := by
              intro f t4_71 w_72 e4 h
              refine y_atf (upd_id rfl e4) ?_
              clear e4
              unfold F8_j5 at h
              refine hK91 _ _ ?_
              refine y_ret ?_
              repeat (first | refine e_then_r ?_ | refine e_block_r ?_)
              exact (hQ0 _ _ _ (res1 (v := (.bool t4_71 : Value)) rfl rfl rfl) ⟨_, rfl, h⟩).1
            refine y_region ?_
            refine y_k (.pointer t21_5 : Value) w_16 rfl rfl rfl (by kernel_rfl) ?_
            refine y_call rfl rfl rfl (by kernel_rfl) (h.mono ?_)
            rintro _ w_62 ⟨t149_61, rfl, h⟩
            refine ⟨_, rfl, ?_⟩
            refine y_k (.pointer t38_11 : Value) w_62 rfl rfl rfl (by kernel_rfl) ?_
            refine y_call rfl rfl rfl (by kernel_rfl) (h.mono ?_)
            rintro _ w_64 ⟨t151_63, rfl, h⟩
            refine ⟨_, rfl, ?_⟩
            obtain ⟨t152_65, hx92, h⟩ := h
            refine y_v (s := do eqGuard .eql 50 (Operand.tmp 149) (Operand.tmp 151) t149_61 t151_63; binOp .eql 50 t149_61 t151_63) rfl rfl rfl (by kernel_rfl) (hx92) ?_
            refine y_k (.bool t152_65 : Value) w_64 rfl rfl rfl (by kernel_rfl) ?_
            refine y_fork (t152_65) (fun hb93 => ?_) (fun hb93 => ?_)
            · replace h := h.1 (hb93)
              refine y_frame (upd_id (i := 153) (v := .bool true) rfl (congrArg Value.bool hb93)) ?_
              refine y_gyes rfl rfl rfl ?_
              refine y_k (.pointer t22_7 : Value) w_64 rfl rfl rfl (by kernel_rfl) ?_
              refine y_gyes rfl rfl rfl ?_
              refine y_call rfl rfl rfl (by kernel_rfl) (h.mono ?_)
              rintro _ w_67 ⟨t155_66, rfl, h⟩
              refine ⟨_, rfl, ?_⟩
              refine y_gyes rfl rfl rfl ?_
              refine y_k (.pointer t39_13 : Value) w_67 rfl rfl rfl (by kernel_rfl) ?_
              refine y_gyes rfl rfl rfl ?_
              refine y_call rfl rfl rfl (by kernel_rfl) (h.mono ?_)
              rintro _ w_69 ⟨t157_68, rfl, h⟩
              refine ⟨_, rfl, ?_⟩
              refine y_gyes rfl rfl rfl ?_
              obtain ⟨t158_70, hx94, h⟩ := h
              refine y_v (s := do eqGuard .eql 50 (Operand.tmp 155) (Operand.tmp 157) t155_66 t157_68; binOp .eql 50 t155_66 t157_68) rfl rfl rfl (by kernel_rfl) (hx94) ?_
              refine y_k (.bool t158_70 : Value) w_69 rfl rfl rfl (by kernel_rfl) ?_
              refine y_k (.bool t158_70 : Value) w_69 rfl rfl rfl (by kernel_rfl) ?_
              refine y_nil ?_
              exact y_then (hjK91 _ t158_70 w_69 rfl h)
            · replace h := h.2 (hb93)
              refine y_frame (upd_id (i := 153) (v := .bool false) rfl (congrArg Value.bool hb93)) ?_
              refine y_gno rfl rfl rfl rfl ?_
              refine y_gno rfl rfl rfl rfl ?_
              refine y_gno rfl rfl rfl rfl ?_
              refine y_gno rfl rfl rfl rfl ?_
              refine y_gno rfl rfl rfl rfl ?_
              refine y_k (.bool false : Value) w_64 rfl rfl rfl (by kernel_rfl) ?_
              refine y_k (.bool false : Value) w_64 rfl rfl rfl (by kernel_rfl) ?_
              refine y_nil ?_
              exact y_then (hjK91 _ false w_64 rfl h)
        refine y_seq fun K13 hK13 => ?_
        refine y_region ?_
        refine y_k (.int .i64 often1_2 : Value) w_8 rfl rfl rfl (by kernel_rfl) ?_
        refine y_k (.bool (decide (often1_2 < 0)) : Value) w_8 rfl rfl rfl (by kernel_rfl) ?_
        refine y_nil ?_
        refine y_then (hK13 _ _ ?_)
        refine y_cond (decide (often1_2 < 0)) rfl rfl (fun hb96 => ?_) (fun hb96 => ?_)
        · replace h := h.1 (of_decide_eq_true hb96)
          refine y_region ?_
          refine y_k (.int .i64 often1_2 : Value) w_8 rfl rfl rfl (by kernel_rfl) ?_
          refine y_k (.int .i64 (IntKind.i64.wrap (often1_2 + 1)) : Value) w_8 rfl rfl rfl (by kernel_rfl) ?_
          refine y_k (.int .i64 (IntKind.i64.wrap (0 - (IntKind.i64.wrap (often1_2 + 1)))) : Value) w_8 rfl rfl rfl (by kernel_rfl) ?_
          refine y_k (.int .i64 (IntKind.i64.wrap (0 - (IntKind.i64.wrap (often1_2 + 1)))) : Value) w_8 rfl rfl rfl (by kernel_rfl) ?_
          refine y_nil ?_
          exact y_then (hjK12 _ (IntKind.i64.wrap (0 - (IntKind.i64.wrap (often1_2 + 1)))) w_8 rfl rfl rfl rfl h)
        · replace h := h.2 (of_decide_eq_false hb96)
          refine y_skip ?_
          exact y_then (hjK12 _ often1_2 w_8 rfl rfl rfl rfl h)

/-- turnkey/turnkeyref02.New -/
def F46  (K : Option Addr → World → Prop) (w : World) : Prop :=
  ∀ (w_1 : World), w_1 = w.alloc (.cells #[.slice none 0 0] 100) →
  K (some (⟨w.heap.size, 0, none⟩ : Addr)) w_1
set_option maxHeartbeats 4000000 in
set_option maxRecDepth 20000 in
theorem F46_sound  (K : Option Addr → World → Prop) (w : World) (h : F46  K w) :
    Calls Try.prog 46 #[] w (fun e w1 => ∃ (r0 : Option Addr), e = .returned (.pointer r0 : Value) ∧ K r0 w1) := by
  unfold F46 at h
  refine y_enter (n := 3) (args := []) Try.func46 rfl rfl rfl fun Q0 hQ0 => ?_
  refine y_seq fun K1 hK1 => ?_
  refine y_region ?_
  refine y_k (.pointer none : Value) w rfl rfl rfl (by kernel_rfl) ?_
  refine y_nil ?_
  refine y_then (hK1 _ _ ?_)
  refine y_seq fun K2 hK2 => ?_
  refine y_region ?_
  refine y_k (.agg #[.slice none 0 0] : Value) w rfl rfl rfl (by kernel_rfl) ?_
  refine y_k (.pointer (some (⟨w.heap.size, 0, none⟩ : Addr)) : Value) (w.alloc (.cells #[.slice none 0 0] 100)) rfl rfl rfl (by kernel_rfl) ?_
  replace h := h _ rfl
  generalize w.alloc (.cells #[.slice none 0 0] 100) = w_1 at h ⊢
  refine y_k (.pointer (some (⟨w.heap.size, 0, none⟩ : Addr)) : Value) w_1 rfl rfl rfl (by kernel_rfl) ?_
  refine y_nil ?_
  refine y_then (hK2 _ _ ?_)
  refine y_ret ?_
  repeat (first | refine e_then_r ?_ | refine e_block_r ?_)
  exact (hQ0 _ _ _ (res1 (v := (.pointer (some (⟨w.heap.size, 0, none⟩ : Addr)) : Value)) rfl rfl rfl) ⟨_, rfl, h⟩).1

/-- (*turnkey/turnkeyref02.Hash).Write -/
def F48 (h0_1 : Option Addr) (b1_2 : Sl) (K : World → Prop) (w : World) : Prop :=
  ∃ (a_3 : Addr), h0_1 = some a_3 ∧
  ∃ (t8_4 : Sl), w.cell? a_3 = some (.slice t8_4.a t8_4.n t8_4.c) ∧
  ∃ (t10_5 : Sl), ∃ (w_6 : World), (Builtin.append_ #[33, 33] 33 #[.slice t8_4.a t8_4.n t8_4.c, .slice b1_2.a b1_2.n b1_2.c]).run Try.prog w = .ok (.slice t10_5.a t10_5.n t10_5.c : Value) w_6 ∧
  ∃ (a_7 : Addr), h0_1 = some a_7 ∧
  HasCell w_6 a_7 ∧ ∀ (w_8 : World), w_8 = w_6.setCell a_7 (.slice t10_5.a t10_5.n t10_5.c : Value) →
  K w_8
set_option maxHeartbeats 4000000 in
set_option maxRecDepth 20000 in
theorem F48_sound (h0_1 : Option Addr) (b1_2 : Sl) (K : World → Prop) (w : World) (h : F48 h0_1 b1_2 K w) :
    Calls Try.prog 48 #[.pointer h0_1, .slice b1_2.a b1_2.n b1_2.c] w (fun e w1 => e = .returned (.tuple #[]) ∧ K  w1) := by
  unfold F48 at h
  refine y_enter (n := 13) (args := [.pointer h0_1, .slice b1_2.a b1_2.n b1_2.c]) Try.func48 rfl rfl rfl fun Q0 hQ0 => ?_
  refine y_region ?_
  refine y_k (.pointer h0_1 : Value) w rfl rfl rfl (by kernel_rfl) ?_
  refine y_k (.pointer h0_1 : Value) w rfl rfl rfl (by kernel_rfl) ?_
  obtain ⟨a_3, hx1, h⟩ := h
  refine y_k (.pointer (some a_3) : Value) w rfl rfl rfl (run_nilCheck hx1 rfl) ?_
  refine y_k (.pointer (some a_3) : Value) w rfl rfl rfl (by kernel_rfl) ?_
  obtain ⟨t8_4, hx2, h⟩ := h
  refine y_v (s := Instr.loadAt 33 (.pointer (some a_3))) rfl rfl rfl (by kernel_rfl) (rn_load (by kernel_rfl) hx2) ?_
  refine y_k (.slice b1_2.a b1_2.n b1_2.c : Value) w rfl rfl rfl (by kernel_rfl) ?_
  obtain ⟨t10_5, w_6, hx3, h⟩ := h
  refine y_v (s := Builtin.append_ #[33, 33] 33 #[.slice t8_4.a t8_4.n t8_4.c, .slice b1_2.a b1_2.n b1_2.c]) rfl rfl rfl (by kernel_rfl) hx3 ?_
  obtain ⟨a_7, hx4, h⟩ := h
  refine y_k (.pointer (some a_7) : Value) w_6 rfl rfl rfl (run_nilCheck hx4 rfl) ?_
  refine y_k (.pointer (some a_7) : Value) w_6 rfl rfl rfl (by kernel_rfl) ?_
  obtain ⟨hx5, h⟩ := h
  replace h := h _ rfl
  refine y_u (s := Instr.storeAt 33 (.pointer (some a_7)) (.slice t10_5.a t10_5.n t10_5.c : Value)) rfl rfl (by kernel_rfl) (rn_store1 (by kernel_rfl) rfl hx5) ?_
  generalize w_6.setCell a_7 (.slice t10_5.a t10_5.n t10_5.c : Value) = w_8 at h ⊢
  refine y_nil ?_
  exact (hQ0 _ _ _ (res0 rfl) ⟨rfl, h⟩).2

/-- (*turnkey/turnkeyref02.Hash).Sum -/
def F50 (h0_1 : Option Addr) (K : Value → World → Prop) (w : World) : Prop :=
  ∀ (w_2 : World), w_2 = w.alloc (.cells #[.int .u8 0, .int .u8 0, .int .u8 0, .int .u8 0, .int .u8 0, .int .u8 0, .int .u8 0, .int .u8 0, .int .u8 0, .int .u8 0, .int .u8 0, .int .u8 0, .int .u8 0, .int .u8 0, .int .u8 0, .int .u8 0, .int .u8 0, .int .u8 0, .int .u8 0, .int .u8 0, .int .u8 0, .int .u8 0, .int .u8 0, .int .u8 0, .int .u8 0, .int .u8 0, .int .u8 0, .int .u8 0, .int .u8 0, .int .u8 0, .int .u8 0, .int .u8 0] 50) →
  ∃ (a_3 : Addr), h0_1 = some a_3 ∧
  ∃ (t6_4 : Sl), w_2.cell? a_3 = some (.slice t6_4.a t6_4.n t6_4.c) ∧
  Calls Try.prog 44 #[.slice t6_4.a t6_4.n t6_4.c] w_2 fun e w_6 => ∃ (t7_5 : Value), e = .returned t7_5 ∧
  ∃ (w_7 : World), (Instr.storeAt 50 (.pointer (some (⟨w.heap.size, 0, none⟩ : Addr))) t7_5).run Try.prog w_6 = .ok () w_7 ∧
  ∃ (r0_8 : Value), (Instr.loadAt 50 (.pointer (some (⟨w.heap.size, 0, none⟩ : Addr)))).run Try.prog w_7 = .ok r0_8 w_7 ∧
  K r0_8 w_7
set_option maxHeartbeats 4000000 in
set_option maxRecDepth 20000 in
theorem F50_sound (h0_1 : Option Addr) (K : Value → World → Prop) (w : World) (h : F50 h0_1 K w) :
    Calls Try.prog 50 #[.pointer h0_1] w (fun e w1 => ∃ (r0 : Value), e = .returned r0 ∧ K r0 w1) := by
  unfold F50 at h
  refine y_enter (n := 8) (args := [.pointer h0_1]) Try.func50 rfl rfl rfl fun Q0 hQ0 => ?_
  refine y_seq fun K1 hK1 => ?_
  refine y_region ?_
  refine y_k (.pointer (some (⟨w.heap.size, 0, none⟩ : Addr)) : Value) (w.alloc (.cells #[.int .u8 0, .int .u8 0, .int .u8 0, .int .u8 0, .int .u8 0, .int .u8 0, .int .u8 0, .int .u8 0, .int .u8 0, .int .u8 0, .int .u8 0, .int .u8 0, .int .u8 0, .int .u8 0, .int .u8 0, .int .u8 0, .int .u8 0, .int .u8 0, .int .u8 0, .int .u8 0, .int .u8 0, .int .u8 0, .int .u8 0, .int .u8 0, .int .u8 0, .int .u8 0, .int .u8 0, .int .u8 0, .int .u8 0, .int .u8 0, .int .u8 0, .int .u8 0] 50)) rfl rfl rfl (by kernel_rfl) ?_
  replace h := h _ rfl
  generalize w.alloc (.cells #[.int .u8 0, .int .u8 0, .int .u8 0, .int .u8 0, .int .u8 0, .int .u8 0, .int .u8 0, .int .u8 0, .int .u8 0, .int .u8 0, .int .u8 0, .int .u8 0, .int .u8 0, .int .u8 0, .int .u8 0, .int .u8 0, .int .u8 0, .int .u8 0, .int .u8 0, .int .u8 0, .int .u8 0, .int .u8 0, .int .u8 0, .int .u8 0, .int .u8 0, .int .u8 0, .int .u8 0, .int .u8 0, .int .u8 0, .int .u8 0, .int .u8 0, .int .u8 0] 50) = w_2 at h ⊢
  refine y_nil ?_
  refine y_then (hK1 _ _ ?_)
  refine y_seq fun K2 hK2 => ?_
  refine y_region ?_
  refine y_k (.pointer h0_1 : Value) w_2 rfl rfl rfl (by kernel_rfl) ?_
  obtain ⟨a_3, hx3, h⟩ := h
  refine y_k (.pointer (some a_3) : Value) w_2 rfl rfl rfl (run_nilCheck hx3 rfl) ?_
  refine y_k (.pointer (some a_3) : Value) w_2 rfl rfl rfl (by kernel_rfl) ?_
  obtain ⟨t6_4, hx4, h⟩ := h
  refine y_v (s := Instr.loadAt 33 (.pointer (some a_3))) rfl rfl rfl (by kernel_rfl) (rn_load (by kernel_rfl) hx4) ?_
  refine y_call rfl rfl rfl (by kernel_rfl) (h.mono ?_)
  rintro _ w_6 ⟨t7_5, rfl, h⟩
  refine ⟨_, rfl, ?_⟩
  obtain ⟨w_7, hx5, h⟩ := h
  refine y_u (s := Instr.storeAt 50 (.pointer (some (⟨w.heap.size, 0, none⟩ : Addr))) t7_5) rfl rfl (by kernel_rfl) hx5 ?_
  refine y_nil ?_
  refine y_then (hK2 _ _ ?_)
  refine y_ret ?_
  repeat (first | refine e_then_r ?_ | refine e_block_r ?_)
  obtain ⟨r0_8, hx6, h⟩ := h
  exact (hQ0 _ _ _ (rs1 rfl (rs_cell (v := r0_8) (ad := (⟨w.heap.size, 0, none⟩ : Addr)) rfl rfl (hx6))) ⟨_, rfl, h⟩).1

end Go.Proofs.Ytjgijifankaglaa
