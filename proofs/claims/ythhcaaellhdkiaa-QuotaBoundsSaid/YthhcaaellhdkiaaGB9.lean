/- Printed by gen.py (own program, wip/): for each Go function a predicate transformer and its soundness. -/
import Derived.Test.YthhcaaellhdkiaaProg
import Derived.Test.YthhcaaellhdkiaaST
namespace Go.Proofs.Ythhcaaellhdkiaa
open Go Go.RowKit Go.Proofs.Ythhcaaellhdkiaa.SX
set_option linter.unusedVariables false

def F9_j3 (K : Bool → World → Prop) (i13_27 : Int) (next45 : (Int) → World → Prop) (t102_31 : Int) (t102_32 : Bool) (want17_39 : Int) (w_40 : World) : Prop :=
  ((t102_32 = false →
  K false w_40) ∧
  (t102_32 = true →
  ((¬ t102_31 = want17_39 →
  K false w_40) ∧
  (t102_31 = want17_39 →
  next45 (IntKind.i64.wrap (i13_27 + 1)) w_40))))
def F9_j4 (K : Bool → World → Prop) (t6_46 : Bool) (w_47 : World) : Prop :=
  K t6_46 w_47
def F9_l2 (v0_1 : Sl) (n1_2 : Sl) (K : Bool → World → Prop) (k10_9 : Int) (t77_25 : Option Addr) (next45 : (Int) → World → Prop) : (Int) → World → Prop := fun (i13_27) w_28 =>
  ((i13_27 < k10_9 →
  (0 : Int) ≤ i13_27 ∧ i13_27 < (n1_2.n : Int) ∧ ∃ (a_29 : Addr), n1_2.a = some a_29 ∧
  ∃ (t96_30 : Int), w_28.cell? (a_29.add (Int.toNat i13_27)) = some (.int .i64 t96_30) ∧
  Calls Try.prog 39 #[.pointer t77_25, .int .i64 ((if ((if t96_30 < 64 then t96_30 else 64)) > 0 then ((if t96_30 < 64 then t96_30 else 64)) else 0))] w_28 fun e w_33 => ∃ (t102_31 : Int), ∃ (t102_32 : Bool), e = .returned (.tuple #[.int .u64 t102_31, .bool t102_32] : Value) ∧
  (0 : Int) ≤ i13_27 ∧ i13_27 < (v0_1.n : Int) ∧ ∃ (a_34 : Addr), v0_1.a = some a_34 ∧
  ∃ (t108_35 : Int), w_33.cell? (a_34.add (Int.toNat i13_27)) = some (.int .u64 t108_35) ∧
  ((((if ((if t96_30 < 64 then t96_30 else 64)) > 0 then ((if t96_30 < 64 then t96_30 else 64)) else 0)) < 64 →
  (0 : Int) ≤ i13_27 ∧ i13_27 < (v0_1.n : Int) ∧ ∃ (a_36 : Addr), v0_1.a = some a_36 ∧
  ∃ (t114_37 : Int), w_33.cell? (a_36.add (Int.toNat i13_27)) = some (.int .u64 t114_37) ∧
  (0 : Int) ≤ ((if ((if t96_30 < 64 then t96_30 else 64)) > 0 then ((if t96_30 < 64 then t96_30 else 64)) else 0)) ∧
  ∀ (w_38 : World), (∃ m, w_38 = w_33.drewN m) →
  F9_j3 K i13_27 next45 t102_31 t102_32 (ibits .and .u64 t114_37 (IntKind.u64.wrap ((ishl .u64 1 ((if ((if t96_30 < 64 then t96_30 else 64)) > 0 then ((if t96_30 < 64 then t96_30 else 64)) else 0))) - 1))) w_38) ∧
  (¬ (((if ((if t96_30 < 64 then t96_30 else 64)) > 0 then ((if t96_30 < 64 then t96_30 else 64)) else 0)) < 64) →
  F9_j3 K i13_27 next45 t102_31 t102_32 t108_35 w_33))) ∧
  (¬ (i13_27 < k10_9) →
  Calls Try.prog 41 #[.pointer t77_25] w_28 fun e w_42 => ∃ (t127_41 : Int), e = .returned (.int .i64 t127_41 : Value) ∧
  Calls Try.prog 39 #[.pointer t77_25, .int .i64 t127_41] w_42 fun e w_45 => ∃ (t131_43 : Int), ∃ (t131_44 : Bool), e = .returned (.tuple #[.int .u64 t131_43, .bool t131_44] : Value) ∧
  ((t127_41 ≥ 0 →
  ((t127_41 < 8 →
  ((t131_44 = true →
  F9_j4 K ((t131_43 == 0)) w_45) ∧
  (t131_44 = false →
  F9_j4 K false w_45))) ∧
  (¬ (t127_41 < 8) →
  F9_j4 K false w_45))) ∧
  (¬ (t127_41 ≥ 0) →
  F9_j4 K false w_45))))
def F9_j6 (K : Bool → World → Prop) (i13_52 : Int) (next90 : (Int) → World → Prop) (t102_56 : Int) (t102_57 : Bool) (want17_64 : Int) (w_65 : World) : Prop :=
  ((t102_57 = false →
  K false w_65) ∧
  (t102_57 = true →
  ((¬ t102_56 = want17_64 →
  K false w_65) ∧
  (t102_56 = want17_64 →
  next90 (IntKind.i64.wrap (i13_52 + 1)) w_65))))
def F9_j7 (K : Bool → World → Prop) (t6_71 : Bool) (w_72 : World) : Prop :=
  K t6_71 w_72
def F9_l5 (v0_1 : Sl) (n1_2 : Sl) (K : Bool → World → Prop) (k10_9 : Int) (t77_50 : Option Addr) (next90 : (Int) → World → Prop) : (Int) → World → Prop := fun (i13_52) w_53 =>
  ((i13_52 < k10_9 →
  (0 : Int) ≤ i13_52 ∧ i13_52 < (n1_2.n : Int) ∧ ∃ (a_54 : Addr), n1_2.a = some a_54 ∧
  ∃ (t96_55 : Int), w_53.cell? (a_54.add (Int.toNat i13_52)) = some (.int .i64 t96_55) ∧
  Calls Try.prog 39 #[.pointer t77_50, .int .i64 ((if ((if t96_55 < 64 then t96_55 else 64)) > 0 then ((if t96_55 < 64 then t96_55 else 64)) else 0))] w_53 fun e w_58 => ∃ (t102_56 : Int), ∃ (t102_57 : Bool), e = .returned (.tuple #[.int .u64 t102_56, .bool t102_57] : Value) ∧
  (0 : Int) ≤ i13_52 ∧ i13_52 < (v0_1.n : Int) ∧ ∃ (a_59 : Addr), v0_1.a = some a_59 ∧
  ∃ (t108_60 : Int), w_58.cell? (a_59.add (Int.toNat i13_52)) = some (.int .u64 t108_60) ∧
  ((((if ((if t96_55 < 64 then t96_55 else 64)) > 0 then ((if t96_55 < 64 then t96_55 else 64)) else 0)) < 64 →
  (0 : Int) ≤ i13_52 ∧ i13_52 < (v0_1.n : Int) ∧ ∃ (a_61 : Addr), v0_1.a = some a_61 ∧
  ∃ (t114_62 : Int), w_58.cell? (a_61.add (Int.toNat i13_52)) = some (.int .u64 t114_62) ∧
  (0 : Int) ≤ ((if ((if t96_55 < 64 then t96_55 else 64)) > 0 then ((if t96_55 < 64 then t96_55 else 64)) else 0)) ∧
  ∀ (w_63 : World), (∃ m, w_63 = w_58.drewN m) →
  F9_j6 K i13_52 next90 t102_56 t102_57 (ibits .and .u64 t114_62 (IntKind.u64.wrap ((ishl .u64 1 ((if ((if t96_55 < 64 then t96_55 else 64)) > 0 then ((if t96_55 < 64 then t96_55 else 64)) else 0))) - 1))) w_63) ∧
  (¬ (((if ((if t96_55 < 64 then t96_55 else 64)) > 0 then ((if t96_55 < 64 then t96_55 else 64)) else 0)) < 64) →
  F9_j6 K i13_52 next90 t102_56 t102_57 t108_60 w_58))) ∧
  (¬ (i13_52 < k10_9) →
  Calls Try.prog 41 #[.pointer t77_50] w_53 fun e w_67 => ∃ (t127_66 : Int), e = .returned (.int .i64 t127_66 : Value) ∧
  Calls Try.prog 39 #[.pointer t77_50, .int .i64 t127_66] w_67 fun e w_70 => ∃ (t131_68 : Int), ∃ (t131_69 : Bool), e = .returned (.tuple #[.int .u64 t131_68, .bool t131_69] : Value) ∧
  ((t127_66 ≥ 0 →
  ((t127_66 < 8 →
  ((t131_69 = true →
  F9_j7 K ((t131_68 == 0)) w_70) ∧
  (t131_69 = false →
  F9_j7 K false w_70))) ∧
  (¬ (t127_66 < 8) →
  F9_j7 K false w_70))) ∧
  (¬ (t127_66 ≥ 0) →
  F9_j7 K false w_70))))
def F9_j9 (K : Bool → World → Prop) (i13_77 : Int) (next134 : (Int) → World → Prop) (t102_81 : Int) (t102_82 : Bool) (want17_89 : Int) (w_90 : World) : Prop :=
  ((t102_82 = false →
  K false w_90) ∧
  (t102_82 = true →
  ((¬ t102_81 = want17_89 →
  K false w_90) ∧
  (t102_81 = want17_89 →
  next134 (IntKind.i64.wrap (i13_77 + 1)) w_90))))
def F9_j10 (K : Bool → World → Prop) (t6_96 : Bool) (w_97 : World) : Prop :=
  K t6_96 w_97
def F9_l8 (v0_1 : Sl) (n1_2 : Sl) (K : Bool → World → Prop) (k10_9 : Int) (t77_75 : Option Addr) (next134 : (Int) → World → Prop) : (Int) → World → Prop := fun (i13_77) w_78 =>
  ((i13_77 < k10_9 →
  (0 : Int) ≤ i13_77 ∧ i13_77 < (n1_2.n : Int) ∧ ∃ (a_79 : Addr), n1_2.a = some a_79 ∧
  ∃ (t96_80 : Int), w_78.cell? (a_79.add (Int.toNat i13_77)) = some (.int .i64 t96_80) ∧
  Calls Try.prog 39 #[.pointer t77_75, .int .i64 ((if ((if t96_80 < 64 then t96_80 else 64)) > 0 then ((if t96_80 < 64 then t96_80 else 64)) else 0))] w_78 fun e w_83 => ∃ (t102_81 : Int), ∃ (t102_82 : Bool), e = .returned (.tuple #[.int .u64 t102_81, .bool t102_82] : Value) ∧
  (0 : Int) ≤ i13_77 ∧ i13_77 < (v0_1.n : Int) ∧ ∃ (a_84 : Addr), v0_1.a = some a_84 ∧
  ∃ (t108_85 : Int), w_83.cell? (a_84.add (Int.toNat i13_77)) = some (.int .u64 t108_85) ∧
  ((((if ((if t96_80 < 64 then t96_80 else 64)) > 0 then ((if t96_80 < 64 then t96_80 else 64)) else 0)) < 64 →
  (0 : Int) ≤ i13_77 ∧ i13_77 < (v0_1.n : Int) ∧ ∃ (a_86 : Addr), v0_1.a = some a_86 ∧
  ∃ (t114_87 : Int), w_83.cell? (a_86.add (Int.toNat i13_77)) = some (.int .u64 t114_87) ∧
  (0 : Int) ≤ ((if ((if t96_80 < 64 then t96_80 else 64)) > 0 then ((if t96_80 < 64 then t96_80 else 64)) else 0)) ∧
  ∀ (w_88 : World), (∃ m, w_88 = w_83.drewN m) →
  F9_j9 K i13_77 next134 t102_81 t102_82 (ibits .and .u64 t114_87 (IntKind.u64.wrap ((ishl .u64 1 ((if ((if t96_80 < 64 then t96_80 else 64)) > 0 then ((if t96_80 < 64 then t96_80 else 64)) else 0))) - 1))) w_88) ∧
  (¬ (((if ((if t96_80 < 64 then t96_80 else 64)) > 0 then ((if t96_80 < 64 then t96_80 else 64)) else 0)) < 64) →
  F9_j9 K i13_77 next134 t102_81 t102_82 t108_85 w_83))) ∧
  (¬ (i13_77 < k10_9) →
  Calls Try.prog 41 #[.pointer t77_75] w_78 fun e w_92 => ∃ (t127_91 : Int), e = .returned (.int .i64 t127_91 : Value) ∧
  Calls Try.prog 39 #[.pointer t77_75, .int .i64 t127_91] w_92 fun e w_95 => ∃ (t131_93 : Int), ∃ (t131_94 : Bool), e = .returned (.tuple #[.int .u64 t131_93, .bool t131_94] : Value) ∧
  ((t127_91 ≥ 0 →
  ((t127_91 < 8 →
  ((t131_94 = true →
  F9_j10 K ((t131_93 == 0)) w_95) ∧
  (t131_94 = false →
  F9_j10 K false w_95))) ∧
  (¬ (t127_91 < 8) →
  F9_j10 K false w_95))) ∧
  (¬ (t127_91 ≥ 0) →
  F9_j10 K false w_95))))
def F9_l1 (v0_1 : Sl) (n1_2 : Sl) (loose2_3 : Int) (K : Bool → World → Prop) (t22_6 : Option Addr) (next13 : (Int × Int) → World → Prop) : (Int × Int) → World → Prop := fun (total9_8, k10_9) w_10 =>
  ((k10_9 < ((v0_1.n : Int)) →
  ((k10_9 < ((n1_2.n : Int)) →
  ((k10_9 < 1000 →
  ∀ (w_11 : World), w_11 = w_10.drew →
  (0 : Int) ≤ k10_9 ∧ k10_9 < (v0_1.n : Int) ∧ ∃ (a_12 : Addr), v0_1.a = some a_12 ∧
  ∃ (t47_13 : Int), w_11.cell? (a_12.add (Int.toNat k10_9)) = some (.int .u64 t47_13) ∧
  (0 : Int) ≤ k10_9 ∧ k10_9 < (n1_2.n : Int) ∧ ∃ (a_14 : Addr), n1_2.a = some a_14 ∧
  ∃ (t51_15 : Int), w_11.cell? (a_14.add (Int.toNat k10_9)) = some (.int .i64 t51_15) ∧
  Calls Try.prog 43 #[.pointer t22_6, .int .u64 t47_13, .int .i64 t51_15] w_11 fun e w_16 => e = .returned (.tuple #[] : Value) ∧ 
  (0 : Int) ≤ k10_9 ∧ k10_9 < (n1_2.n : Int) ∧ ∃ (a_17 : Addr), n1_2.a = some a_17 ∧
  ∃ (t57_18 : Int), w_16.cell? (a_17.add (Int.toNat k10_9)) = some (.int .i64 t57_18) ∧
  Calls Try.prog 43 #[.pointer t22_6, .int .u64 loose2_3, .int .i64 64] w_16 fun e w_19 => e = .returned (.tuple #[] : Value) ∧
  Calls Try.prog 44 #[.pointer t22_6] w_19 fun e w_21 => ∃ (t65_20 : Int), e = .returned (.int .i64 t65_20 : Value) ∧
  ((¬ t65_20 = ((IntKind.i64.wrap ((IntKind.i64.wrap (total9_8 + ((if ((if t57_18 < 64 then t57_18 else 64)) > 0 then ((if t57_18 < 64 then t57_18 else 64)) else 0)))) + 64))) →
  K false w_21) ∧
  (t65_20 = ((IntKind.i64.wrap ((IntKind.i64.wrap (total9_8 + ((if ((if t57_18 < 64 then t57_18 else 64)) > 0 then ((if t57_18 < 64 then t57_18 else 64)) else 0)))) + 64))) →
  Calls Try.prog 45 #[.pointer t22_6, .int .i64 (IntKind.i64.wrap (total9_8 + ((if ((if t57_18 < 64 then t57_18 else 64)) > 0 then ((if t57_18 < 64 then t57_18 else 64)) else 0))))] w_21 fun e w_22 => e = .returned (.tuple #[] : Value) ∧
  next13 (IntKind.i64.wrap (total9_8 + ((if ((if t57_18 < 64 then t57_18 else 64)) > 0 then ((if t57_18 < 64 then t57_18 else 64)) else 0))), IntKind.i64.wrap (k10_9 + 1)) w_22))) ∧
  (¬ (k10_9 < 1000) →
  Calls Try.prog 46 #[.pointer t22_6] w_10 fun e w_24 => ∃ (t75_23 : Sl), e = .returned (.slice t75_23.a t75_23.n t75_23.c : Value) ∧
  Calls Try.prog 37 #[.slice t75_23.a t75_23.n t75_23.c] w_24 fun e w_26 => ∃ (t77_25 : Option Addr), e = .returned (.pointer t77_25 : Value) ∧
  ((t77_25.isNone = true →
  K false w_26) ∧
  (t77_25.isNone = false →
  ((¬ (((t75_23.n : Int))) = ((IntKind.i64.wrap (Int.tdiv (IntKind.i64.wrap (total9_8 + 7)) 8))) →
  K false w_26) ∧
  ((((t75_23.n : Int))) = ((IntKind.i64.wrap (Int.tdiv (IntKind.i64.wrap (total9_8 + 7)) 8))) →
  kLoop (F9_l2 v0_1 n1_2 K k10_9 t77_25) (0) w_26))))))) ∧
  (¬ (k10_9 < ((n1_2.n : Int))) →
  Calls Try.prog 46 #[.pointer t22_6] w_10 fun e w_49 => ∃ (t75_48 : Sl), e = .returned (.slice t75_48.a t75_48.n t75_48.c : Value) ∧
  Calls Try.prog 37 #[.slice t75_48.a t75_48.n t75_48.c] w_49 fun e w_51 => ∃ (t77_50 : Option Addr), e = .returned (.pointer t77_50 : Value) ∧
  ((t77_50.isNone = true →
  K false w_51) ∧
  (t77_50.isNone = false →
  ((¬ (((t75_48.n : Int))) = ((IntKind.i64.wrap (Int.tdiv (IntKind.i64.wrap (total9_8 + 7)) 8))) →
  K false w_51) ∧
  ((((t75_48.n : Int))) = ((IntKind.i64.wrap (Int.tdiv (IntKind.i64.wrap (total9_8 + 7)) 8))) →
  kLoop (F9_l5 v0_1 n1_2 K k10_9 t77_50) (0) w_51))))))) ∧
  (¬ (k10_9 < ((v0_1.n : Int))) →
  Calls Try.prog 46 #[.pointer t22_6] w_10 fun e w_74 => ∃ (t75_73 : Sl), e = .returned (.slice t75_73.a t75_73.n t75_73.c : Value) ∧
  Calls Try.prog 37 #[.slice t75_73.a t75_73.n t75_73.c] w_74 fun e w_76 => ∃ (t77_75 : Option Addr), e = .returned (.pointer t77_75 : Value) ∧
  ((t77_75.isNone = true →
  K false w_76) ∧
  (t77_75.isNone = false →
  ((¬ (((t75_73.n : Int))) = ((IntKind.i64.wrap (Int.tdiv (IntKind.i64.wrap (total9_8 + 7)) 8))) →
  K false w_76) ∧
  ((((t75_73.n : Int))) = ((IntKind.i64.wrap (Int.tdiv (IntKind.i64.wrap (total9_8 + 7)) 8))) →
  kLoop (F9_l8 v0_1 n1_2 K k10_9 t77_75) (0) w_76))))))
/-- turnkey/turnkeylaw03.BitsBack -/
def F9 (v0_1 : Sl) (n1_2 : Sl) (loose2_3 : Int) (K : Bool → World → Prop) (w : World) : Prop :=
  Calls Try.prog 32 #[] w fun e w_5 => ∃ (t21_4 : Bool), e = .returned (.bool t21_4 : Value) ∧
  Calls Try.prog 33 #[] w_5 fun e w_7 => ∃ (t22_6 : Option Addr), e = .returned (.pointer t22_6 : Value) ∧
  ((t21_4 = false →
  K false w_7) ∧
  (t21_4 = true →
  ((t22_6.isNone = true →
  K false w_7) ∧
  (t22_6.isNone = false →
  kLoop (F9_l1 v0_1 n1_2 loose2_3 K t22_6) (0, 0) w_7))))
set_option maxHeartbeats 4000000 in
set_option maxRecDepth 20000 in
theorem F9_sound (v0_1 : Sl) (n1_2 : Sl) (loose2_3 : Int) (K : Bool → World → Prop) (w : World) (h : F9 v0_1 n1_2 loose2_3 K w) :
    Calls Try.prog 9 #[.slice v0_1.a v0_1.n v0_1.c, .slice n1_2.a n1_2.n n1_2.c, .int .u64 loose2_3] w (fun e w1 => ∃ (r0 : Bool), e = .returned (.bool r0 : Value) ∧ K r0 w1) := by
  unfold F9 at h
  refine y_enter (n := 147) (args := [.slice v0_1.a v0_1.n v0_1.c, .slice n1_2.a n1_2.n n1_2.c, .int .u64 loose2_3]) Try.func9 rfl rfl rfl fun Q0 hQ0 => ?_
  refine y_seq fun K1 hK1 => ?_
  refine y_region ?_
  refine y_k (.bool false : Value) w rfl rfl rfl (by kernel_rfl) ?_
  refine y_nil ?_
  refine y_then (hK1 _ _ ?_)
  refine y_seq fun K2 hK2 => ?_
  refine y_region ?_
  refine y_call rfl rfl rfl (by kernel_rfl) (h.mono ?_)
  rintro _ w_5 ⟨t21_4, rfl, h⟩
  refine ⟨_, rfl, ?_⟩
  refine y_k (.bool t21_4 : Value) w_5 rfl rfl rfl (by kernel_rfl) ?_
  refine y_nil ?_
  refine y_then (hK2 _ _ ?_)
  refine y_seq fun K3 hK3 => ?_
  refine y_region ?_
  refine y_call rfl rfl rfl (by kernel_rfl) (h.mono ?_)
  rintro _ w_7 ⟨t22_6, rfl, h⟩
  refine ⟨_, rfl, ?_⟩
  refine y_k (.pointer t22_6 : Value) w_7 rfl rfl rfl (by kernel_rfl) ?_
  refine y_nil ?_
  refine y_then (hK3 _ _ ?_)
  refine y_seq fun K4 hK4 => ?_
  refine y_seq fun K5 hK5 => ?_
  refine y_region ?_
  refine y_k (.bool t21_4 : Value) w_7 rfl rfl rfl (by kernel_rfl) ?_
  refine y_k (.bool (!(t21_4)) : Value) w_7 rfl rfl rfl (by kernel_rfl) ?_
  refine y_k (.bool (!(t21_4)) : Value) w_7 rfl rfl rfl (by kernel_rfl) ?_
  refine y_fork (!(t21_4)) (fun hb6 => ?_) (fun hb6 => ?_)
  · replace h := h.1 ((not_true_of hb6))
    refine y_frame (upd_id (i := 25) (v := .bool true) rfl (congrArg Value.bool hb6)) ?_
    refine y_gno rfl rfl rfl rfl ?_
    refine y_gno rfl rfl rfl rfl ?_
    refine y_k (.bool true : Value) w_7 rfl rfl rfl (by kernel_rfl) ?_
    refine y_nil ?_
    refine y_then (hK5 _ _ ?_)
    refine y_cond_t rfl rfl ?_
    refine y_seq fun K7 hK7 => ?_
    refine y_region ?_
    refine y_k (.bool false : Value) w_7 rfl rfl rfl (by kernel_rfl) ?_
    refine y_nil ?_
    refine y_then (hK7 _ _ ?_)
    refine y_ret ?_
    repeat (first | refine e_then_r ?_ | refine e_block_r ?_)
    exact (hQ0 _ _ _ (res1 (v := (.bool false : Value)) rfl rfl rfl) ⟨_, rfl, h⟩).1
  · replace h := h.2 ((not_false_of hb6))
    refine y_frame (upd_id (i := 25) (v := .bool false) rfl (congrArg Value.bool hb6)) ?_
    refine y_gyes rfl rfl rfl ?_
    refine y_k (.pointer t22_6 : Value) w_7 rfl rfl rfl (by kernel_rfl) ?_
    refine y_gyes rfl rfl rfl ?_
    refine y_v (v := (.bool t22_6.isNone : Value)) (s := do eqGuard .eql 60 (Operand.tmp 26) (Operand.const (Value.pointer none)) (.pointer t22_6 : Value) (.pointer none : Value); binOp .eql 60 (.pointer t22_6 : Value) (.pointer none : Value)) rfl rfl rfl (by kernel_rfl) (run_eql_ptrnil (by kernel_rfl)) ?_
    refine y_k (.bool t22_6.isNone : Value) w_7 rfl rfl rfl (by kernel_rfl) ?_
    refine y_nil ?_
    refine y_then (hK5 _ _ ?_)
    refine y_cond (t22_6.isNone) rfl rfl (fun hb168 => ?_) (fun hb168 => ?_)
    · replace h := h.1 (hb168)
      refine y_seq fun K8 hK8 => ?_
      refine y_region ?_
      refine y_k (.bool false : Value) w_7 rfl rfl rfl (by kernel_rfl) ?_
      refine y_nil ?_
      refine y_then (hK8 _ _ ?_)
      refine y_ret ?_
      repeat (first | refine e_then_r ?_ | refine e_block_r ?_)
      exact (hQ0 _ _ _ (res1 (v := (.bool false : Value)) rfl rfl rfl) ⟨_, rfl, h⟩).1
    · replace h := h.2 (hb168)
      refine y_skip ?_
      refine y_then (hK4 _ _ ?_)
      refine y_seq fun K9 hK9 => ?_
      refine y_region ?_
      refine y_k (.int .i64 0 : Value) w_7 rfl rfl rfl (by kernel_rfl) ?_
      refine y_nil ?_
      refine y_then (hK9 _ _ ?_)
      refine y_seq fun K10 hK10 => ?_
      refine y_region ?_
      refine y_k (.int .i64 0 : Value) w_7 rfl rfl rfl (by kernel_rfl) ?_
      refine y_nil ?_
      refine y_then (hK10 _ _ ?_)
      refine y_seq fun K11 hK11 => ?_
      refine y_block ?_
      refine y_loop (S := Int × Int) (fun s j => match s with | (total9_8, k10_9) => upd (upd (upd (upd (upd (upd (j) 0 (.slice v0_1.a v0_1.n v0_1.c : Value)) 1 (.slice n1_2.a n1_2.n n1_2.c : Value)) 2 (.int .u64 loose2_3 : Value)) 8 (.pointer t22_6 : Value)) 9 (.int .i64 total9_8 : Value)) 10 (.int .i64 k10_9 : Value)) (0, 0) ?_ h ?_
      · dsimp only
        refine upd_id ?_ rfl
        refine upd_id ?_ rfl
        refine upd_id ?_ rfl
        refine upd_id ?_ rfl
        refine upd_id ?_ rfl
        refine upd_id ?_ rfl
        rfl
      rintro KN14 next13 hN14 ⟨total9_8, k10_9⟩ j w_10 h
      unfold F9_l1 at h
      refine y_seq fun K15 hK15 => ?_
      refine y_seq fun K16 hK16 => ?_
      refine y_region ?_
      refine y_k (.int .i64 k10_9 : Value) w_10 rfl rfl rfl (by kernel_rfl) ?_
      refine y_k (.slice v0_1.a v0_1.n v0_1.c : Value) w_10 rfl rfl rfl (by kernel_rfl) ?_
      refine y_k (.int .i64 ((v0_1.n : Int)) : Value) w_10 rfl rfl rfl (by kernel_rfl) ?_
      refine y_k (.bool (decide (k10_9 < ((v0_1.n : Int)))) : Value) w_10 rfl rfl rfl (by kernel_rfl) ?_
      refine y_k (.bool (decide (k10_9 < ((v0_1.n : Int)))) : Value) w_10 rfl rfl rfl (by kernel_rfl) ?_
      refine y_fork (decide (k10_9 < ((v0_1.n : Int)))) (fun hb17 => ?_) (fun hb17 => ?_)
      · replace h := h.1 (of_decide_eq_true hb17)
        refine y_frame (upd_id (i := 33) (v := .bool true) rfl (congrArg Value.bool hb17)) ?_
        refine y_gyes rfl rfl rfl ?_
        refine y_k (.int .i64 k10_9 : Value) w_10 rfl rfl rfl (by kernel_rfl) ?_
        refine y_gyes rfl rfl rfl ?_
        refine y_k (.slice n1_2.a n1_2.n n1_2.c : Value) w_10 rfl rfl rfl (by kernel_rfl) ?_
        refine y_gyes rfl rfl rfl ?_
        refine y_k (.int .i64 ((n1_2.n : Int)) : Value) w_10 rfl rfl rfl (by kernel_rfl) ?_
        refine y_gyes rfl rfl rfl ?_
        refine y_k (.bool (decide (k10_9 < ((n1_2.n : Int)))) : Value) w_10 rfl rfl rfl (by kernel_rfl) ?_
        refine y_k (.bool (decide (k10_9 < ((n1_2.n : Int)))) : Value) w_10 rfl rfl rfl (by kernel_rfl) ?_
        refine y_k (.bool (decide (k10_9 < ((n1_2.n : Int)))) : Value) w_10 rfl rfl rfl (by kernel_rfl) ?_
        refine y_fork (decide (k10_9 < ((n1_2.n : Int)))) (fun hb18 => ?_) (fun hb18 => ?_)
        · replace h := h.1 (of_decide_eq_true hb18)
          refine y_frame (upd_id (i := 39) (v := .bool true) rfl (congrArg Value.bool hb18)) ?_
          refine y_gyes rfl rfl rfl ?_
          refine y_k (.int .i64 k10_9 : Value) w_10 rfl rfl rfl (by kernel_rfl) ?_
          refine y_gyes rfl rfl rfl ?_
          refine y_k (.bool (decide (k10_9 < 1000)) : Value) w_10 rfl rfl rfl (by kernel_rfl) ?_
          refine y_k (.bool (decide (k10_9 < 1000)) : Value) w_10 rfl rfl rfl (by kernel_rfl) ?_
          refine y_nil ?_
          refine y_then (hK16 _ _ ?_)
          refine y_cond (decide (k10_9 < 1000)) rfl rfl (fun hb79 => ?_) (fun hb79 => ?_)
          · replace h := h.1 (of_decide_eq_true hb79)
            refine y_skip ?_
            refine y_then (hK15 _ _ ?_)
            refine y_block ?_
            refine y_seq fun K20 hK20 => ?_
            obtain ⟨w_11, hwd21⟩ : ∃ wd : World, wd = w_10.drew := ⟨_, rfl⟩
            replace h := h _ hwd21
            refine t_region (wd := w_11) [] (by kernel_rfl) hwd21 SF_nil fun Q21 hE21 hp21 hS => ?_
            clear hwd21
            refine t_kw hp21 hS 0 (.pointer t22_6 : Value) rfl (wanted_none rfl) rfl rfl (by kernel_rfl) (fun _ _ => by kernel_rfl) fun hS => ?_
            refine t_kw hp21 hS 1 (.slice v0_1.a v0_1.n v0_1.c : Value) rfl (wanted_none rfl) rfl rfl (by kernel_rfl) (fun _ _ => by kernel_rfl) fun hS => ?_
            refine t_kw hp21 hS 2 (.int .i64 k10_9 : Value) rfl (wanted_none rfl) rfl rfl (by kernel_rfl) (fun _ _ => by kernel_rfl) fun hS => ?_
            obtain ⟨hx22a, hx22b, a_12, hx22, h⟩ := h
            refine t_v (s := Instr.indexAt 80 (.slice v0_1.a v0_1.n v0_1.c : Value) (.int .i64 k10_9 : Value)) hp21 hS 3 (.pointer (some (a_12.add (Int.toNat k10_9))) : Value) rfl (wanted_none rfl) rfl rfl (by kernel_rfl) (by kernel_rfl) (fun _ _ => run_ixs1 (el := 23) (by kernel_rfl) (by kernel_rfl) hx22 hx22a hx22b) fun hS => ?_
            obtain ⟨t47_13, hx23, h⟩ := h
            refine t_add ⟨4, [9], fun wx => wx.cell? (a_12.add (Int.toNat k10_9)) = some (.int .u64 t47_13)⟩ ?_
            replace hS := SF_on (x := ⟨4, [9], fun wx => wx.cell? (a_12.add (Int.toNat k10_9)) = some (.int .u64 t47_13)⟩) hx23 hS
            refine t_v (s := Instr.loadAt 23 (.pointer (some (a_12.add (Int.toNat k10_9))))) hp21 hS 4 (.int .u64 t47_13 : Value) rfl (wanted_none rfl) rfl rfl (by kernel_rfl) (by kernel_rfl) (fun _ hw => rn_load (by kernel_rfl) (Sw.fact (List.Mem.head _) rfl hw)) fun hS => ?_
            refine t_kw hp21 hS 5 (.slice n1_2.a n1_2.n n1_2.c : Value) rfl (wanted_none rfl) rfl rfl (by kernel_rfl) (fun _ _ => by kernel_rfl) fun hS => ?_
            refine t_kw hp21 hS 6 (.int .i64 k10_9 : Value) rfl (wanted_none rfl) rfl rfl (by kernel_rfl) (fun _ _ => by kernel_rfl) fun hS => ?_
            obtain ⟨hx24a, hx24b, a_14, hx24, h⟩ := h
            refine t_v (s := Instr.indexAt 71 (.slice n1_2.a n1_2.n n1_2.c : Value) (.int .i64 k10_9 : Value)) hp21 hS 7 (.pointer (some (a_14.add (Int.toNat k10_9))) : Value) rfl (wanted_none rfl) rfl rfl (by kernel_rfl) (by kernel_rfl) (fun _ _ => run_ixs1 (el := 3) (by kernel_rfl) (by kernel_rfl) hx24 hx24a hx24b) fun hS => ?_
            obtain ⟨t51_15, hx25, h⟩ := h
            refine t_add ⟨8, [9], fun wx => wx.cell? (a_14.add (Int.toNat k10_9)) = some (.int .i64 t51_15)⟩ ?_
            replace hS := SF_on (x := ⟨8, [9], fun wx => wx.cell? (a_14.add (Int.toNat k10_9)) = some (.int .i64 t51_15)⟩) hx25 hS
            refine t_v (s := Instr.loadAt 3 (.pointer (some (a_14.add (Int.toNat k10_9))))) hp21 hS 8 (.int .i64 t51_15 : Value) rfl (wanted_none rfl) rfl rfl (by kernel_rfl) (by kernel_rfl) (fun _ hw => rn_load (by kernel_rfl) (Sw.fact (List.Mem.head _) rfl hw)) fun hS => ?_
            refine t_call 9 (by kernel_rfl) rfl (wanted_none rfl) rfl rfl (by kernel_rfl) (h.mono ?_)
            rintro _ w_16 ⟨rfl, h⟩
            refine ⟨_, rfl, (SF_off (by kernel_rfl) (by kernel_rfl) (SF_off (by kernel_rfl) (by kernel_rfl) SF_nil)), fun hS => ?_⟩
            refine t_done (by kernel_rfl) (hE21 _ _ ?_)
            refine y_then (hK20 _ _ ?_)
            refine y_seq fun K26 hK26 => ?_
            refine y_region ?_
            refine y_k (.int .i64 total9_8 : Value) w_16 rfl rfl rfl (by kernel_rfl) ?_
            refine y_k (.slice n1_2.a n1_2.n n1_2.c : Value) w_16 rfl rfl rfl (by kernel_rfl) ?_
            refine y_k (.int .i64 k10_9 : Value) w_16 rfl rfl rfl (by kernel_rfl) ?_
            obtain ⟨hx27a, hx27b, a_17, hx27, h⟩ := h
            refine y_v (v := (.pointer (some (a_17.add (Int.toNat k10_9))) : Value)) (s := Instr.indexAt 71 (.slice n1_2.a n1_2.n n1_2.c : Value) (.int .i64 k10_9 : Value)) rfl rfl rfl (by kernel_rfl) (run_ixs1 (el := 3) (by kernel_rfl) (by kernel_rfl) hx27 hx27a hx27b) ?_
            obtain ⟨t57_18, hx28, h⟩ := h
            refine y_v (s := Instr.loadAt 3 (.pointer (some (a_17.add (Int.toNat k10_9))))) rfl rfl rfl (by kernel_rfl) (rn_load (by kernel_rfl) hx28) ?_
            refine y_v (v := (.int .i64 ((if t57_18 < 64 then t57_18 else 64)) : Value)) (s := Builtin.min_ #[3, 3] 3 #[.int .i64 64, .int .i64 t57_18]) rfl rfl rfl (by kernel_rfl) (run_min2) ?_
            refine y_v (v := (.int .i64 ((if ((if t57_18 < 64 then t57_18 else 64)) > 0 then ((if t57_18 < 64 then t57_18 else 64)) else 0)) : Value)) (s := Builtin.max_ #[3, 3] 3 #[.int .i64 0, .int .i64 ((if t57_18 < 64 then t57_18 else 64))]) rfl rfl rfl (by kernel_rfl) (run_max2) ?_
            refine y_k (.int .i64 (IntKind.i64.wrap (total9_8 + ((if ((if t57_18 < 64 then t57_18 else 64)) > 0 then ((if t57_18 < 64 then t57_18 else 64)) else 0)))) : Value) w_16 rfl rfl rfl (by kernel_rfl) ?_
            refine y_k (.int .i64 (IntKind.i64.wrap (total9_8 + ((if ((if t57_18 < 64 then t57_18 else 64)) > 0 then ((if t57_18 < 64 then t57_18 else 64)) else 0)))) : Value) w_16 rfl rfl rfl (by kernel_rfl) ?_
            refine y_nil ?_
            refine y_then (hK26 _ _ ?_)
            refine y_seq fun K29 hK29 => ?_
            refine y_region ?_
            refine y_k (.pointer t22_6 : Value) w_16 rfl rfl rfl (by kernel_rfl) ?_
            refine y_k (.int .u64 loose2_3 : Value) w_16 rfl rfl rfl (by kernel_rfl) ?_
            refine y_call rfl rfl rfl (by kernel_rfl) (h.mono ?_)
            rintro _ w_19 ⟨rfl, h⟩
            refine ⟨_, rfl, ?_⟩
            refine y_nil ?_
            refine y_then (hK29 _ _ ?_)
            refine y_seq fun K30 hK30 => ?_
            refine y_seq fun K31 hK31 => ?_
            refine y_region ?_
            refine y_k (.pointer t22_6 : Value) w_19 rfl rfl rfl (by kernel_rfl) ?_
            refine y_call rfl rfl rfl (by kernel_rfl) (h.mono ?_)
            rintro _ w_21 ⟨t65_20, rfl, h⟩
            refine ⟨_, rfl, ?_⟩
            refine y_k (.int .i64 (IntKind.i64.wrap (total9_8 + ((if ((if t57_18 < 64 then t57_18 else 64)) > 0 then ((if t57_18 < 64 then t57_18 else 64)) else 0)))) : Value) w_21 rfl rfl rfl (by kernel_rfl) ?_
            refine y_k (.int .i64 (IntKind.i64.wrap ((IntKind.i64.wrap (total9_8 + ((if ((if t57_18 < 64 then t57_18 else 64)) > 0 then ((if t57_18 < 64 then t57_18 else 64)) else 0)))) + 64)) : Value) w_21 rfl rfl rfl (by kernel_rfl) ?_
            refine y_k (.bool ((t65_20 != ((IntKind.i64.wrap ((IntKind.i64.wrap (total9_8 + ((if ((if t57_18 < 64 then t57_18 else 64)) > 0 then ((if t57_18 < 64 then t57_18 else 64)) else 0)))) + 64))))) : Value) w_21 rfl rfl rfl (by kernel_rfl) ?_
            refine y_nil ?_
            refine y_then (hK31 _ _ ?_)
            refine y_cond ((t65_20 != ((IntKind.i64.wrap ((IntKind.i64.wrap (total9_8 + ((if ((if t57_18 < 64 then t57_18 else 64)) > 0 then ((if t57_18 < 64 then t57_18 else 64)) else 0)))) + 64))))) rfl rfl (fun hb34 => ?_) (fun hb34 => ?_)
            · replace h := h.1 (bne_iff_ne.mp hb34)
              refine y_seq fun K32 hK32 => ?_
              refine y_region ?_
              refine y_k (.bool false : Value) w_21 rfl rfl rfl (by kernel_rfl) ?_
              refine y_nil ?_
              refine y_then (hK32 _ _ ?_)
              refine y_ret ?_
              repeat (first | refine e_then_r ?_ | refine e_block_r ?_)
              exact (hQ0 _ _ _ (res1 (v := (.bool false : Value)) rfl rfl rfl) ⟨_, rfl, h⟩).1
            · replace h := h.2 (bne_eq_false_iff_eq.mp hb34)
              refine y_skip ?_
              refine y_then (hK30 _ _ ?_)
              refine y_seq fun K33 hK33 => ?_
              refine y_region ?_
              refine y_k (.pointer t22_6 : Value) w_21 rfl rfl rfl (by kernel_rfl) ?_
              refine y_k (.int .i64 (IntKind.i64.wrap (total9_8 + ((if ((if t57_18 < 64 then t57_18 else 64)) > 0 then ((if t57_18 < 64 then t57_18 else 64)) else 0)))) : Value) w_21 rfl rfl rfl (by kernel_rfl) ?_
              refine y_call rfl rfl rfl (by kernel_rfl) (h.mono ?_)
              rintro _ w_22 ⟨rfl, h⟩
              refine ⟨_, rfl, ?_⟩
              refine y_nil ?_
              refine y_then (hK33 _ _ ?_)
              refine y_region ?_
              refine y_k (.int .i64 k10_9 : Value) w_22 rfl rfl rfl (by kernel_rfl) ?_
              refine y_k (.int .i64 (IntKind.i64.wrap (k10_9 + 1)) : Value) w_22 rfl rfl rfl (by kernel_rfl) ?_
              refine y_k (.int .i64 (IntKind.i64.wrap (k10_9 + 1)) : Value) w_22 rfl rfl rfl (by kernel_rfl) ?_
              refine y_nil ?_
              refine e_block_n ?_
              refine y_then (hN14 (IntKind.i64.wrap (total9_8 + ((if ((if t57_18 < 64 then t57_18 else 64)) > 0 then ((if t57_18 < 64 then t57_18 else 64)) else 0))), IntKind.i64.wrap (k10_9 + 1)) _ _ h ?_)
              dsimp only
              refine upd_id ?_ rfl
              refine upd_id ?_ rfl
              refine upd_id ?_ rfl
              refine upd_id ?_ rfl
              refine upd_id ?_ rfl
              refine upd_id ?_ rfl
              rfl
          · replace h := h.2 (of_decide_eq_false hb79)
            refine y_exit ?_
            repeat (first | refine e_then_x ?_ | refine e_block_y rfl ?_)
            refine e_block_x ?_
            refine y_then (hK11 _ _ ?_)
            refine y_seq fun K35 hK35 => ?_
            refine y_region ?_
            refine y_k (.pointer t22_6 : Value) w_10 rfl rfl rfl (by kernel_rfl) ?_
            refine y_call rfl rfl rfl (by kernel_rfl) (h.mono ?_)
            rintro _ w_24 ⟨t75_23, rfl, h⟩
            refine ⟨_, rfl, ?_⟩
            refine y_k (.slice t75_23.a t75_23.n t75_23.c : Value) w_24 rfl rfl rfl (by kernel_rfl) ?_
            refine y_nil ?_
            refine y_then (hK35 _ _ ?_)
            refine y_seq fun K36 hK36 => ?_
            refine y_region ?_
            refine y_k (.slice t75_23.a t75_23.n t75_23.c : Value) w_24 rfl rfl rfl (by kernel_rfl) ?_
            refine y_call rfl rfl rfl (by kernel_rfl) (h.mono ?_)
            rintro _ w_26 ⟨t77_25, rfl, h⟩
            refine ⟨_, rfl, ?_⟩
            refine y_k (.pointer t77_25 : Value) w_26 rfl rfl rfl (by kernel_rfl) ?_
            refine y_nil ?_
            refine y_then (hK36 _ _ ?_)
            refine y_seq fun K37 hK37 => ?_
            refine y_seq fun K38 hK38 => ?_
            refine y_region ?_
            refine y_k (.pointer t77_25 : Value) w_26 rfl rfl rfl (by kernel_rfl) ?_
            refine y_v (v := (.bool t77_25.isNone : Value)) (s := do eqGuard .eql 72 (Operand.tmp 78) (Operand.const (Value.pointer none)) (.pointer t77_25 : Value) (.pointer none : Value); binOp .eql 72 (.pointer t77_25 : Value) (.pointer none : Value)) rfl rfl rfl (by kernel_rfl) (run_eql_ptrnil (by kernel_rfl)) ?_
            refine y_k (.bool t77_25.isNone : Value) w_26 rfl rfl rfl (by kernel_rfl) ?_
            refine y_fork (t77_25.isNone) (fun hb39 => ?_) (fun hb39 => ?_)
            · replace h := h.1 (hb39)
              refine y_frame (upd_id (i := 80) (v := .bool true) rfl (congrArg Value.bool hb39)) ?_
              refine y_gno rfl rfl rfl rfl ?_
              refine y_gno rfl rfl rfl rfl ?_
              refine y_gno rfl rfl rfl rfl ?_
              refine y_gno rfl rfl rfl rfl ?_
              refine y_gno rfl rfl rfl rfl ?_
              refine y_gno rfl rfl rfl rfl ?_
              refine y_k (.bool true : Value) w_26 rfl rfl rfl (by kernel_rfl) ?_
              refine y_nil ?_
              refine y_then (hK38 _ _ ?_)
              refine y_cond_t rfl rfl ?_
              refine y_seq fun K40 hK40 => ?_
              refine y_region ?_
              refine y_k (.bool false : Value) w_26 rfl rfl rfl (by kernel_rfl) ?_
              refine y_nil ?_
              refine y_then (hK40 _ _ ?_)
              refine y_ret ?_
              repeat (first | refine e_then_r ?_ | refine e_block_r ?_)
              exact (hQ0 _ _ _ (res1 (v := (.bool false : Value)) rfl rfl rfl) ⟨_, rfl, h⟩).1
            · replace h := h.2 (hb39)
              refine y_frame (upd_id (i := 80) (v := .bool false) rfl (congrArg Value.bool hb39)) ?_
              refine y_gyes rfl rfl rfl ?_
              refine y_k (.slice t75_23.a t75_23.n t75_23.c : Value) w_26 rfl rfl rfl (by kernel_rfl) ?_
              refine y_gyes rfl rfl rfl ?_
              refine y_k (.int .i64 ((t75_23.n : Int)) : Value) w_26 rfl rfl rfl (by kernel_rfl) ?_
              refine y_gyes rfl rfl rfl ?_
              refine y_k (.int .i64 total9_8 : Value) w_26 rfl rfl rfl (by kernel_rfl) ?_
              refine y_gyes rfl rfl rfl ?_
              refine y_k (.int .i64 (IntKind.i64.wrap (total9_8 + 7)) : Value) w_26 rfl rfl rfl (by kernel_rfl) ?_
              refine y_gyes rfl rfl rfl ?_
              refine y_k (.int .i64 (IntKind.i64.wrap (Int.tdiv (IntKind.i64.wrap (total9_8 + 7)) 8)) : Value) w_26 rfl rfl rfl (by kernel_rfl) ?_
              refine y_gyes rfl rfl rfl ?_
              refine y_k (.bool (((((t75_23.n : Int))) != ((IntKind.i64.wrap (Int.tdiv (IntKind.i64.wrap (total9_8 + 7)) 8))))) : Value) w_26 rfl rfl rfl (by kernel_rfl) ?_
              refine y_k (.bool (((((t75_23.n : Int))) != ((IntKind.i64.wrap (Int.tdiv (IntKind.i64.wrap (total9_8 + 7)) 8))))) : Value) w_26 rfl rfl rfl (by kernel_rfl) ?_
              refine y_nil ?_
              refine y_then (hK38 _ _ ?_)
              refine y_cond (((((t75_23.n : Int))) != ((IntKind.i64.wrap (Int.tdiv (IntKind.i64.wrap (total9_8 + 7)) 8))))) rfl rfl (fun hb78 => ?_) (fun hb78 => ?_)
              · replace h := h.1 (bne_iff_ne.mp hb78)
                refine y_seq fun K41 hK41 => ?_
                refine y_region ?_
                refine y_k (.bool false : Value) w_26 rfl rfl rfl (by kernel_rfl) ?_
                refine y_nil ?_
                refine y_then (hK41 _ _ ?_)
                refine y_ret ?_
                repeat (first | refine e_then_r ?_ | refine e_block_r ?_)
                exact (hQ0 _ _ _ (res1 (v := (.bool false : Value)) rfl rfl rfl) ⟨_, rfl, h⟩).1
              · replace h := h.2 (bne_eq_false_iff_eq.mp hb78)
                refine y_skip ?_
                refine y_then (hK37 _ _ ?_)
                refine y_seq fun K42 hK42 => ?_
                refine y_seq fun K43 hK43 => ?_
                refine y_region ?_
                refine y_k (.int .i64 0 : Value) w_26 rfl rfl rfl (by kernel_rfl) ?_
                refine y_nil ?_
                refine y_then (hK43 _ _ ?_)
                refine y_block ?_
                refine y_loop (S := Int) (fun s j => match s with | (i13_27) => upd (upd (upd (upd (upd (j) 0 (.slice v0_1.a v0_1.n v0_1.c : Value)) 1 (.slice n1_2.a n1_2.n n1_2.c : Value)) 10 (.int .i64 k10_9 : Value)) 12 (.pointer t77_25 : Value)) 13 (.int .i64 i13_27 : Value)) (0) ?_ h ?_
                · dsimp only
                  refine upd_id ?_ rfl
                  refine upd_id ?_ rfl
                  refine upd_id ?_ rfl
                  refine upd_id ?_ rfl
                  refine upd_id ?_ rfl
                  rfl
                rintro KN46 next45 hN46 i13_27 j w_28 h
                unfold F9_l2 at h
                refine y_seq fun K47 hK47 => ?_
                refine y_seq fun K48 hK48 => ?_
                refine y_region ?_
                refine y_k (.int .i64 i13_27 : Value) w_28 rfl rfl rfl (by kernel_rfl) ?_
                refine y_k (.int .i64 k10_9 : Value) w_28 rfl rfl rfl (by kernel_rfl) ?_
                refine y_k (.bool (decide (i13_27 < k10_9)) : Value) w_28 rfl rfl rfl (by kernel_rfl) ?_
                refine y_nil ?_
                refine y_then (hK48 _ _ ?_)
                refine y_cond (decide (i13_27 < k10_9)) rfl rfl (fun hb77 => ?_) (fun hb77 => ?_)
                · replace h := h.1 (of_decide_eq_true hb77)
                  refine y_skip ?_
                  refine y_then (hK47 _ _ ?_)
                  refine y_seq fun K49 hK49 => ?_
                  refine y_block ?_
                  refine y_seq fun K51 hK51 => ?_
                  refine y_region ?_
                  refine y_k (.slice n1_2.a n1_2.n n1_2.c : Value) w_28 rfl rfl rfl (by kernel_rfl) ?_
                  refine y_k (.int .i64 i13_27 : Value) w_28 rfl rfl rfl (by kernel_rfl) ?_
                  obtain ⟨hx52a, hx52b, a_29, hx52, h⟩ := h
                  refine y_v (v := (.pointer (some (a_29.add (Int.toNat i13_27))) : Value)) (s := Instr.indexAt 71 (.slice n1_2.a n1_2.n n1_2.c : Value) (.int .i64 i13_27 : Value)) rfl rfl rfl (by kernel_rfl) (run_ixs1 (el := 3) (by kernel_rfl) (by kernel_rfl) hx52 hx52a hx52b) ?_
                  obtain ⟨t96_30, hx53, h⟩ := h
                  refine y_v (s := Instr.loadAt 3 (.pointer (some (a_29.add (Int.toNat i13_27))))) rfl rfl rfl (by kernel_rfl) (rn_load (by kernel_rfl) hx53) ?_
                  refine y_v (v := (.int .i64 ((if t96_30 < 64 then t96_30 else 64)) : Value)) (s := Builtin.min_ #[3, 3] 3 #[.int .i64 64, .int .i64 t96_30]) rfl rfl rfl (by kernel_rfl) (run_min2) ?_
                  refine y_v (v := (.int .i64 ((if ((if t96_30 < 64 then t96_30 else 64)) > 0 then ((if t96_30 < 64 then t96_30 else 64)) else 0)) : Value)) (s := Builtin.max_ #[3, 3] 3 #[.int .i64 0, .int .i64 ((if t96_30 < 64 then t96_30 else 64))]) rfl rfl rfl (by kernel_rfl) (run_max2) ?_
                  refine y_k (.int .i64 ((if ((if t96_30 < 64 then t96_30 else 64)) > 0 then ((if t96_30 < 64 then t96_30 else 64)) else 0)) : Value) w_28 rfl rfl rfl (by kernel_rfl) ?_
                  refine y_nil ?_
                  refine y_then (hK51 _ _ ?_)
                  refine y_seq fun K54 hK54 => ?_
                  refine y_region ?_
                  refine y_k (.pointer t77_25 : Value) w_28 rfl rfl rfl (by kernel_rfl) ?_
                  refine y_k (.int .i64 ((if ((if t96_30 < 64 then t96_30 else 64)) > 0 then ((if t96_30 < 64 then t96_30 else 64)) else 0)) : Value) w_28 rfl rfl rfl (by kernel_rfl) ?_
                  refine y_call rfl rfl rfl (by kernel_rfl) (h.mono ?_)
                  rintro _ w_33 ⟨t102_31, t102_32, rfl, h⟩
                  refine ⟨_, rfl, ?_⟩
                  refine y_k (.tuple #[.int .u64 t102_31, .bool t102_32] : Value) w_33 rfl rfl rfl (by kernel_rfl) ?_
                  refine y_k (.int .u64 t102_31 : Value) w_33 rfl rfl rfl (by kernel_rfl) ?_
                  refine y_k (.bool t102_32 : Value) w_33 rfl rfl rfl (by kernel_rfl) ?_
                  refine y_k (.int .u64 t102_31 : Value) w_33 rfl rfl rfl (by kernel_rfl) ?_
                  refine y_k (.bool t102_32 : Value) w_33 rfl rfl rfl (by kernel_rfl) ?_
                  refine y_nil ?_
                  refine y_then (hK54 _ _ ?_)
                  refine y_seq fun K55 hK55 => ?_
                  refine y_region ?_
                  refine y_k (.slice v0_1.a v0_1.n v0_1.c : Value) w_33 rfl rfl rfl (by kernel_rfl) ?_
                  refine y_k (.int .i64 i13_27 : Value) w_33 rfl rfl rfl (by kernel_rfl) ?_
                  obtain ⟨hx56a, hx56b, a_34, hx56, h⟩ := h
                  refine y_v (v := (.pointer (some (a_34.add (Int.toNat i13_27))) : Value)) (s := Instr.indexAt 80 (.slice v0_1.a v0_1.n v0_1.c : Value) (.int .i64 i13_27 : Value)) rfl rfl rfl (by kernel_rfl) (run_ixs1 (el := 23) (by kernel_rfl) (by kernel_rfl) hx56 hx56a hx56b) ?_
                  obtain ⟨t108_35, hx57, h⟩ := h
                  refine y_v (s := Instr.loadAt 23 (.pointer (some (a_34.add (Int.toNat i13_27))))) rfl rfl rfl (by kernel_rfl) (rn_load (by kernel_rfl) hx57) ?_
                  refine y_k (.int .u64 t108_35 : Value) w_33 rfl rfl rfl (by kernel_rfl) ?_
                  refine y_nil ?_
                  refine y_then (hK55 _ _ ?_)
                  refine y_seq fun K58 hK58 => ?_
                  have hjK58 : ∀ (f : Fr) (want17_39 : Int) (w_40 : World), f 0 = (.slice v0_1.a v0_1.n v0_1.c : Value) → f 1 = (.slice n1_2.a n1_2.n n1_2.c : Value) → f 10 = (.int .i64 k10_9 : Value) → f 12 = (.pointer t77_25 : Value) → f 13 = (.int .i64 i13_27 : Value) → f 15 = (.int .u64 t102_31 : Value) → f 16 = (.bool t102_32 : Value) → f 17 = (.int .u64 want17_39 : Value) → F9_j3 K i13_27 next45 t102_31 t102_32 want17_39 w_40 → WK K58 147 f w_40 := by
                    intro f want17_39 w_40 e0 e1 e10 e12 e13 e15 e16 e17 h
                    refine y_atf (upd_id (upd_id (upd_id (upd_id (upd_id (upd_id (upd_id (upd_id rfl e0) e1) e10) e12) e13) e15) e16) e17) ?_
                    clear e0 e1 e10 e12 e13 e15 e16 e17
                    unfold F9_j3 at h
                    refine hK58 _ _ ?_
                    refine y_seq fun K64 hK64 => ?_
                    refine y_region ?_
                    refine y_k (.bool t102_32 : Value) w_40 rfl rfl rfl (by kernel_rfl) ?_
                    refine y_k (.bool (!(t102_32)) : Value) w_40 rfl rfl rfl (by kernel_rfl) ?_
                    refine y_k (.bool (!(t102_32)) : Value) w_40 rfl rfl rfl (by kernel_rfl) ?_
                    refine y_fork (!(t102_32)) (fun hb65 => ?_) (fun hb65 => ?_)
                    · replace h := h.1 ((not_true_of hb65))
                      refine y_frame (upd_id (i := 121) (v := .bool true) rfl (congrArg Value.bool hb65)) ?_
                      refine y_gno rfl rfl rfl rfl ?_
                      refine y_gno rfl rfl rfl rfl ?_
                      refine y_gno rfl rfl rfl rfl ?_
                      refine y_k (.bool true : Value) w_40 rfl rfl rfl (by kernel_rfl) ?_
                      refine y_nil ?_
                      refine y_then (hK64 _ _ ?_)
                      refine y_cond_t rfl rfl ?_
                      refine y_seq fun K66 hK66 => ?_
                      refine y_region ?_
                      refine y_k (.bool false : Value) w_40 rfl rfl rfl (by kernel_rfl) ?_
                      refine y_nil ?_
                      refine y_then (hK66 _ _ ?_)
                      refine y_ret ?_
                      repeat (first | refine e_then_r ?_ | refine e_block_r ?_)
                      exact (hQ0 _ _ _ (res1 (v := (.bool false : Value)) rfl rfl rfl) ⟨_, rfl, h⟩).1
                    · replace h := h.2 ((not_false_of hb65))
                      refine y_frame (upd_id (i := 121) (v := .bool false) rfl (congrArg Value.bool hb65)) ?_
                      refine y_gyes rfl rfl rfl ?_
                      refine y_k (.int .u64 t102_31 : Value) w_40 rfl rfl rfl (by kernel_rfl) ?_
                      refine y_gyes rfl rfl rfl ?_
                      refine y_k (.int .u64 want17_39 : Value) w_40 rfl rfl rfl (by kernel_rfl) ?_
                      refine y_gyes rfl rfl rfl ?_
                      refine y_k (.bool ((t102_31 != want17_39)) : Value) w_40 rfl rfl rfl (by kernel_rfl) ?_
                      refine y_k (.bool ((t102_31 != want17_39)) : Value) w_40 rfl rfl rfl (by kernel_rfl) ?_
                      refine y_nil ?_
                      refine y_then (hK64 _ _ ?_)
                      refine y_cond ((t102_31 != want17_39)) rfl rfl (fun hb68 => ?_) (fun hb68 => ?_)
                      · replace h := h.1 (bne_iff_ne.mp hb68)
                        refine y_seq fun K67 hK67 => ?_
                        refine y_region ?_
                        refine y_k (.bool false : Value) w_40 rfl rfl rfl (by kernel_rfl) ?_
                        refine y_nil ?_
                        refine y_then (hK67 _ _ ?_)
                        refine y_ret ?_
                        repeat (first | refine e_then_r ?_ | refine e_block_r ?_)
                        exact (hQ0 _ _ _ (res1 (v := (.bool false : Value)) rfl rfl rfl) ⟨_, rfl, h⟩).1
                      · replace h := h.2 (bne_eq_false_iff_eq.mp hb68)
                        refine y_skip ?_
                        refine e_block_n ?_
                        refine y_then (hK49 _ _ ?_)
                        refine y_region ?_
                        refine y_k (.int .i64 i13_27 : Value) w_40 rfl rfl rfl (by kernel_rfl) ?_
                        refine y_k (.int .i64 (IntKind.i64.wrap (i13_27 + 1)) : Value) w_40 rfl rfl rfl (by kernel_rfl) ?_
                        refine y_k (.int .i64 (IntKind.i64.wrap (i13_27 + 1)) : Value) w_40 rfl rfl rfl (by kernel_rfl) ?_
                        refine y_nil ?_
                        refine y_then (hN46 (IntKind.i64.wrap (i13_27 + 1)) _ _ h ?_)
                        dsimp only
                        refine upd_id ?_ rfl
                        refine upd_id ?_ rfl
                        refine upd_id ?_ rfl
                        refine upd_id ?_ rfl
                        refine upd_id ?_ rfl
                        rfl
                  refine y_seq fun K59 hK59 => ?_
                  refine y_region ?_
                  refine y_k (.int .i64 ((if ((if t96_30 < 64 then t96_30 else 64)) > 0 then ((if t96_30 < 64 then t96_30 else 64)) else 0)) : Value) w_33 rfl rfl rfl (by kernel_rfl) ?_
                  refine y_k (.bool (decide (((if ((if t96_30 < 64 then t96_30 else 64)) > 0 then ((if t96_30 < 64 then t96_30 else 64)) else 0)) < 64)) : Value) w_33 rfl rfl rfl (by kernel_rfl) ?_
                  refine y_nil ?_
                  refine y_then (hK59 _ _ ?_)
                  refine y_cond (decide (((if ((if t96_30 < 64 then t96_30 else 64)) > 0 then ((if t96_30 < 64 then t96_30 else 64)) else 0)) < 64)) rfl rfl (fun hb70 => ?_) (fun hb70 => ?_)
                  · replace h := h.1 (of_decide_eq_true hb70)
                    refine q_region (by kernel_rfl) (by kernel_rfl) fun Qq60 hQq60 => ?_
                    refine q_k (.slice v0_1.a v0_1.n v0_1.c : Value) rfl rfl rfl (fun _ => by kernel_rfl) ?_
                    refine q_k (.int .i64 i13_27 : Value) rfl rfl rfl (fun _ => by kernel_rfl) ?_
                    obtain ⟨hx61a, hx61b, a_36, hx61, h⟩ := h
                    refine q_v (v := (.pointer (some (a_36.add (Int.toNat i13_27))) : Value)) (s := Instr.indexAt 80 (.slice v0_1.a v0_1.n v0_1.c : Value) (.int .i64 i13_27 : Value)) rfl rfl rfl (by kernel_rfl) (fun _ => run_ixs1 (el := 23) (by kernel_rfl) (by kernel_rfl) hx61 hx61a hx61b) ?_
                    obtain ⟨t114_37, hx62, h⟩ := h
                    refine q_v (v := (.int .u64 t114_37 : Value)) (s := Instr.loadAt 23 (.pointer (some (a_36.add (Int.toNat i13_27))))) rfl rfl rfl (by kernel_rfl) (fun _ => rn_load (by kernel_rfl) hx62) ?_
                    refine q_k (.int .i64 ((if ((if t96_30 < 64 then t96_30 else 64)) > 0 then ((if t96_30 < 64 then t96_30 else 64)) else 0)) : Value) rfl rfl rfl (fun _ => by kernel_rfl) ?_
                    obtain ⟨hx63, h⟩ := h
                    refine q_k (.int .u64 (ishl .u64 1 ((if ((if t96_30 < 64 then t96_30 else 64)) > 0 then ((if t96_30 < 64 then t96_30 else 64)) else 0))) : Value) rfl rfl rfl (fun _ => run_shl hx63 rfl rfl) ?_
                    refine q_k (.int .u64 (IntKind.u64.wrap ((ishl .u64 1 ((if ((if t96_30 < 64 then t96_30 else 64)) > 0 then ((if t96_30 < 64 then t96_30 else 64)) else 0))) - 1)) : Value) rfl rfl rfl (fun _ => by kernel_rfl) ?_
                    refine q_k (.int .u64 (ibits .and .u64 t114_37 (IntKind.u64.wrap ((ishl .u64 1 ((if ((if t96_30 < 64 then t96_30 else 64)) > 0 then ((if t96_30 < 64 then t96_30 else 64)) else 0))) - 1))) : Value) rfl rfl rfl (fun _ => by kernel_rfl) ?_
                    refine q_k (.int .u64 (ibits .and .u64 t114_37 (IntKind.u64.wrap ((ishl .u64 1 ((if ((if t96_30 < 64 then t96_30 else 64)) > 0 then ((if t96_30 < 64 then t96_30 else 64)) else 0))) - 1))) : Value) rfl rfl rfl (fun _ => by kernel_rfl) ?_
                    refine q_nil (hQq60 _ fun m69 => ?_)
                    replace h := h _ ⟨m69, rfl⟩
                    generalize w_33.drewN m69 = w_38 at h ⊢
                    exact y_then (hjK58 _ (ibits .and .u64 t114_37 (IntKind.u64.wrap ((ishl .u64 1 ((if ((if t96_30 < 64 then t96_30 else 64)) > 0 then ((if t96_30 < 64 then t96_30 else 64)) else 0))) - 1))) w_38 rfl rfl rfl rfl rfl rfl rfl rfl h)
                  · replace h := h.2 (of_decide_eq_false hb70)
                    refine y_skip ?_
                    exact y_then (hjK58 _ t108_35 w_33 rfl rfl rfl rfl rfl rfl rfl rfl h)
                · replace h := h.2 (of_decide_eq_false hb77)
                  refine y_exit ?_
                  repeat (first | refine e_then_x ?_ | refine e_block_y rfl ?_)
                  refine e_block_x ?_
                  refine y_then (hK42 _ _ ?_)
                  refine y_seq fun K71 hK71 => ?_
                  refine y_region ?_
                  refine y_k (.pointer t77_25 : Value) w_28 rfl rfl rfl (by kernel_rfl) ?_
                  refine y_call rfl rfl rfl (by kernel_rfl) (h.mono ?_)
                  rintro _ w_42 ⟨t127_41, rfl, h⟩
                  refine ⟨_, rfl, ?_⟩
                  refine y_k (.int .i64 t127_41 : Value) w_42 rfl rfl rfl (by kernel_rfl) ?_
                  refine y_nil ?_
                  refine y_then (hK71 _ _ ?_)
                  refine y_seq fun K72 hK72 => ?_
                  refine y_region ?_
                  refine y_k (.pointer t77_25 : Value) w_42 rfl rfl rfl (by kernel_rfl) ?_
                  refine y_k (.int .i64 t127_41 : Value) w_42 rfl rfl rfl (by kernel_rfl) ?_
                  refine y_call rfl rfl rfl (by kernel_rfl) (h.mono ?_)
                  rintro _ w_45 ⟨t131_43, t131_44, rfl, h⟩
                  refine ⟨_, rfl, ?_⟩
                  refine y_k (.tuple #[.int .u64 t131_43, .bool t131_44] : Value) w_45 rfl rfl rfl (by kernel_rfl) ?_
                  refine y_k (.int .u64 t131_43 : Value) w_45 rfl rfl rfl (by kernel_rfl) ?_
                  refine y_k (.bool t131_44 : Value) w_45 rfl rfl rfl (by kernel_rfl) ?_
                  refine y_k (.int .u64 t131_43 : Value) w_45 rfl rfl rfl (by kernel_rfl) ?_
                  refine y_k (.bool t131_44 : Value) w_45 rfl rfl rfl (by kernel_rfl) ?_
                  refine y_nil ?_
                  refine y_then (hK72 _ _ ?_)
                  refine y_seq fun K73 hK73 => ?_
                  have hjK73 : ∀ (f : Fr) (t6_46 : Bool) (w_47 : World), f 6 = (.bool t6_46 : Value) → F9_j4 K t6_46 w_47 → WK K73 147 f w_47 := by
                    intro f t6_46 w_47 e6 h
                    refine y_atf (upd_id rfl e6) ?_
                    clear e6
                    unfold F9_j4 at h
                    refine hK73 _ _ ?_
                    refine y_ret ?_
                    repeat (first | refine e_then_r ?_ | refine e_block_r ?_)
                    exact (hQ0 _ _ _ (res1 (v := (.bool t6_46 : Value)) rfl rfl rfl) ⟨_, rfl, h⟩).1
                  refine y_region ?_
                  refine y_k (.int .i64 t127_41 : Value) w_45 rfl rfl rfl (by kernel_rfl) ?_
                  refine y_k (.bool (decide (t127_41 ≥ 0)) : Value) w_45 rfl rfl rfl (by kernel_rfl) ?_
                  refine y_k (.bool (decide (t127_41 ≥ 0)) : Value) w_45 rfl rfl rfl (by kernel_rfl) ?_
                  refine y_fork (decide (t127_41 ≥ 0)) (fun hb74 => ?_) (fun hb74 => ?_)
                  · replace h := h.1 (of_decide_eq_true hb74)
                    refine y_frame (upd_id (i := 136) (v := .bool true) rfl (congrArg Value.bool hb74)) ?_
                    refine y_gyes rfl rfl rfl ?_
                    refine y_k (.int .i64 t127_41 : Value) w_45 rfl rfl rfl (by kernel_rfl) ?_
                    refine y_gyes rfl rfl rfl ?_
                    refine y_k (.bool (decide (t127_41 < 8)) : Value) w_45 rfl rfl rfl (by kernel_rfl) ?_
                    refine y_k (.bool (decide (t127_41 < 8)) : Value) w_45 rfl rfl rfl (by kernel_rfl) ?_
                    refine y_k (.bool (decide (t127_41 < 8)) : Value) w_45 rfl rfl rfl (by kernel_rfl) ?_
                    refine y_fork (decide (t127_41 < 8)) (fun hb75 => ?_) (fun hb75 => ?_)
                    · replace h := h.1 (of_decide_eq_true hb75)
                      refine y_frame (upd_id (i := 140) (v := .bool true) rfl (congrArg Value.bool hb75)) ?_
                      refine y_gyes rfl rfl rfl ?_
                      refine y_k (.bool t131_44 : Value) w_45 rfl rfl rfl (by kernel_rfl) ?_
                      refine y_k (.bool t131_44 : Value) w_45 rfl rfl rfl (by kernel_rfl) ?_
                      refine y_k (.bool t131_44 : Value) w_45 rfl rfl rfl (by kernel_rfl) ?_
                      refine y_fork (t131_44) (fun hb76 => ?_) (fun hb76 => ?_)
                      · replace h := h.1 (hb76)
                        refine y_frame (upd_id (i := 143) (v := .bool true) rfl (congrArg Value.bool hb76)) ?_
                        refine y_gyes rfl rfl rfl ?_
                        refine y_k (.int .u64 t131_43 : Value) w_45 rfl rfl rfl (by kernel_rfl) ?_
                        refine y_gyes rfl rfl rfl ?_
                        refine y_k (.bool ((t131_43 == 0)) : Value) w_45 rfl rfl rfl (by kernel_rfl) ?_
                        refine y_k (.bool ((t131_43 == 0)) : Value) w_45 rfl rfl rfl (by kernel_rfl) ?_
                        refine y_k (.bool ((t131_43 == 0)) : Value) w_45 rfl rfl rfl (by kernel_rfl) ?_
                        refine y_nil ?_
                        exact y_then (hjK73 _ ((t131_43 == 0)) w_45 rfl h)
                      · replace h := h.2 (hb76)
                        refine y_frame (upd_id (i := 143) (v := .bool false) rfl (congrArg Value.bool hb76)) ?_
                        refine y_gno rfl rfl rfl rfl ?_
                        refine y_gno rfl rfl rfl rfl ?_
                        refine y_k (.bool false : Value) w_45 rfl rfl rfl (by kernel_rfl) ?_
                        refine y_k (.bool false : Value) w_45 rfl rfl rfl (by kernel_rfl) ?_
                        refine y_nil ?_
                        exact y_then (hjK73 _ false w_45 rfl h)
                    · replace h := h.2 (of_decide_eq_false hb75)
                      refine y_frame (upd_id (i := 140) (v := .bool false) rfl (congrArg Value.bool hb75)) ?_
                      refine y_gno rfl rfl rfl rfl ?_
                      refine y_k (.bool false : Value) w_45 rfl rfl rfl (by kernel_rfl) ?_
                      refine y_k (.bool false : Value) w_45 rfl rfl rfl (by kernel_rfl) ?_
                      refine y_gno rfl rfl rfl rfl ?_
                      refine y_gno rfl rfl rfl rfl ?_
                      refine y_k (.bool false : Value) w_45 rfl rfl rfl (by kernel_rfl) ?_
                      refine y_k (.bool false : Value) w_45 rfl rfl rfl (by kernel_rfl) ?_
                      refine y_nil ?_
                      exact y_then (hjK73 _ false w_45 rfl h)
                  · replace h := h.2 (of_decide_eq_false hb74)
                    refine y_frame (upd_id (i := 136) (v := .bool false) rfl (congrArg Value.bool hb74)) ?_
                    refine y_gno rfl rfl rfl rfl ?_
                    refine y_gno rfl rfl rfl rfl ?_
                    refine y_k (.bool false : Value) w_45 rfl rfl rfl (by kernel_rfl) ?_
                    refine y_k (.bool false : Value) w_45 rfl rfl rfl (by kernel_rfl) ?_
                    refine y_gno rfl rfl rfl rfl ?_
                    refine y_k (.bool false : Value) w_45 rfl rfl rfl (by kernel_rfl) ?_
                    refine y_k (.bool false : Value) w_45 rfl rfl rfl (by kernel_rfl) ?_
                    refine y_gno rfl rfl rfl rfl ?_
                    refine y_gno rfl rfl rfl rfl ?_
                    refine y_k (.bool false : Value) w_45 rfl rfl rfl (by kernel_rfl) ?_
                    refine y_k (.bool false : Value) w_45 rfl rfl rfl (by kernel_rfl) ?_
                    refine y_nil ?_
                    exact y_then (hjK73 _ false w_45 rfl h)
        · replace h := h.2 (of_decide_eq_false hb18)
          refine y_frame (upd_id (i := 39) (v := .bool false) rfl (congrArg Value.bool hb18)) ?_
          refine y_gno rfl rfl rfl rfl ?_
          refine y_gno rfl rfl rfl rfl ?_
          refine y_k (.bool false : Value) w_10 rfl rfl rfl (by kernel_rfl) ?_
          refine y_nil ?_
          refine y_then (hK16 _ _ ?_)
          refine y_cond_f rfl rfl ?_
          refine y_exit ?_
          repeat (first | refine e_then_x ?_ | refine e_block_y rfl ?_)
          refine e_block_x ?_
          refine y_then (hK11 _ _ ?_)
          refine y_seq fun K80 hK80 => ?_
          refine y_region ?_
          refine y_k (.pointer t22_6 : Value) w_10 rfl rfl rfl (by kernel_rfl) ?_
          refine y_call rfl rfl rfl (by kernel_rfl) (h.mono ?_)
          rintro _ w_49 ⟨t75_48, rfl, h⟩
          refine ⟨_, rfl, ?_⟩
          refine y_k (.slice t75_48.a t75_48.n t75_48.c : Value) w_49 rfl rfl rfl (by kernel_rfl) ?_
          refine y_nil ?_
          refine y_then (hK80 _ _ ?_)
          refine y_seq fun K81 hK81 => ?_
          refine y_region ?_
          refine y_k (.slice t75_48.a t75_48.n t75_48.c : Value) w_49 rfl rfl rfl (by kernel_rfl) ?_
          refine y_call rfl rfl rfl (by kernel_rfl) (h.mono ?_)
          rintro _ w_51 ⟨t77_50, rfl, h⟩
          refine ⟨_, rfl, ?_⟩
          refine y_k (.pointer t77_50 : Value) w_51 rfl rfl rfl (by kernel_rfl) ?_
          refine y_nil ?_
          refine y_then (hK81 _ _ ?_)
          refine y_seq fun K82 hK82 => ?_
          refine y_seq fun K83 hK83 => ?_
          refine y_region ?_
          refine y_k (.pointer t77_50 : Value) w_51 rfl rfl rfl (by kernel_rfl) ?_
          refine y_v (v := (.bool t77_50.isNone : Value)) (s := do eqGuard .eql 72 (Operand.tmp 78) (Operand.const (Value.pointer none)) (.pointer t77_50 : Value) (.pointer none : Value); binOp .eql 72 (.pointer t77_50 : Value) (.pointer none : Value)) rfl rfl rfl (by kernel_rfl) (run_eql_ptrnil (by kernel_rfl)) ?_
          refine y_k (.bool t77_50.isNone : Value) w_51 rfl rfl rfl (by kernel_rfl) ?_
          refine y_fork (t77_50.isNone) (fun hb84 => ?_) (fun hb84 => ?_)
          · replace h := h.1 (hb84)
            refine y_frame (upd_id (i := 80) (v := .bool true) rfl (congrArg Value.bool hb84)) ?_
            refine y_gno rfl rfl rfl rfl ?_
            refine y_gno rfl rfl rfl rfl ?_
            refine y_gno rfl rfl rfl rfl ?_
            refine y_gno rfl rfl rfl rfl ?_
            refine y_gno rfl rfl rfl rfl ?_
            refine y_gno rfl rfl rfl rfl ?_
            refine y_k (.bool true : Value) w_51 rfl rfl rfl (by kernel_rfl) ?_
            refine y_nil ?_
            refine y_then (hK83 _ _ ?_)
            refine y_cond_t rfl rfl ?_
            refine y_seq fun K85 hK85 => ?_
            refine y_region ?_
            refine y_k (.bool false : Value) w_51 rfl rfl rfl (by kernel_rfl) ?_
            refine y_nil ?_
            refine y_then (hK85 _ _ ?_)
            refine y_ret ?_
            repeat (first | refine e_then_r ?_ | refine e_block_r ?_)
            exact (hQ0 _ _ _ (res1 (v := (.bool false : Value)) rfl rfl rfl) ⟨_, rfl, h⟩).1
          · replace h := h.2 (hb84)
            refine y_frame (upd_id (i := 80) (v := .bool false) rfl (congrArg Value.bool hb84)) ?_
            refine y_gyes rfl rfl rfl ?_
            refine y_k (.slice t75_48.a t75_48.n t75_48.c : Value) w_51 rfl rfl rfl (by kernel_rfl) ?_
            refine y_gyes rfl rfl rfl ?_
            refine y_k (.int .i64 ((t75_48.n : Int)) : Value) w_51 rfl rfl rfl (by kernel_rfl) ?_
            refine y_gyes rfl rfl rfl ?_
            refine y_k (.int .i64 total9_8 : Value) w_51 rfl rfl rfl (by kernel_rfl) ?_
            refine y_gyes rfl rfl rfl ?_
            refine y_k (.int .i64 (IntKind.i64.wrap (total9_8 + 7)) : Value) w_51 rfl rfl rfl (by kernel_rfl) ?_
            refine y_gyes rfl rfl rfl ?_
            refine y_k (.int .i64 (IntKind.i64.wrap (Int.tdiv (IntKind.i64.wrap (total9_8 + 7)) 8)) : Value) w_51 rfl rfl rfl (by kernel_rfl) ?_
            refine y_gyes rfl rfl rfl ?_
            refine y_k (.bool (((((t75_48.n : Int))) != ((IntKind.i64.wrap (Int.tdiv (IntKind.i64.wrap (total9_8 + 7)) 8))))) : Value) w_51 rfl rfl rfl (by kernel_rfl) ?_
            refine y_k (.bool (((((t75_48.n : Int))) != ((IntKind.i64.wrap (Int.tdiv (IntKind.i64.wrap (total9_8 + 7)) 8))))) : Value) w_51 rfl rfl rfl (by kernel_rfl) ?_
            refine y_nil ?_
            refine y_then (hK83 _ _ ?_)
            refine y_cond (((((t75_48.n : Int))) != ((IntKind.i64.wrap (Int.tdiv (IntKind.i64.wrap (total9_8 + 7)) 8))))) rfl rfl (fun hb123 => ?_) (fun hb123 => ?_)
            · replace h := h.1 (bne_iff_ne.mp hb123)
              refine y_seq fun K86 hK86 => ?_
              refine y_region ?_
              refine y_k (.bool false : Value) w_51 rfl rfl rfl (by kernel_rfl) ?_
              refine y_nil ?_
              refine y_then (hK86 _ _ ?_)
              refine y_ret ?_
              repeat (first | refine e_then_r ?_ | refine e_block_r ?_)
              exact (hQ0 _ _ _ (res1 (v := (.bool false : Value)) rfl rfl rfl) ⟨_, rfl, h⟩).1
            · replace h := h.2 (bne_eq_false_iff_eq.mp hb123)
              refine y_skip ?_
              refine y_then (hK82 _ _ ?_)
              refine y_seq fun K87 hK87 => ?_
              refine y_seq fun K88 hK88 => ?_
              refine y_region ?_
              refine y_k (.int .i64 0 : Value) w_51 rfl rfl rfl (by kernel_rfl) ?_
              refine y_nil ?_
              refine y_then (hK88 _ _ ?_)
              refine y_block ?_
              refine y_loop (S := Int) (fun s j => match s with | (i13_52) => upd (upd (upd (upd (upd (j) 0 (.slice v0_1.a v0_1.n v0_1.c : Value)) 1 (.slice n1_2.a n1_2.n n1_2.c : Value)) 10 (.int .i64 k10_9 : Value)) 12 (.pointer t77_50 : Value)) 13 (.int .i64 i13_52 : Value)) (0) ?_ h ?_
              · dsimp only
                refine upd_id ?_ rfl
                refine upd_id ?_ rfl
                refine upd_id ?_ rfl
                refine upd_id ?_ rfl
                refine upd_id ?_ rfl
                rfl
              rintro KN91 next90 hN91 i13_52 j w_53 h
              unfold F9_l5 at h
              refine y_seq fun K92 hK92 => ?_
              refine y_seq fun K93 hK93 => ?_
              refine y_region ?_
              refine y_k (.int .i64 i13_52 : Value) w_53 rfl rfl rfl (by kernel_rfl) ?_
              refine y_k (.int .i64 k10_9 : Value) w_53 rfl rfl rfl (by kernel_rfl) ?_
              refine y_k (.bool (decide (i13_52 < k10_9)) : Value) w_53 rfl rfl rfl (by kernel_rfl) ?_
              refine y_nil ?_
              refine y_then (hK93 _ _ ?_)
              refine y_cond (decide (i13_52 < k10_9)) rfl rfl (fun hb122 => ?_) (fun hb122 => ?_)
              · replace h := h.1 (of_decide_eq_true hb122)
                refine y_skip ?_
                refine y_then (hK92 _ _ ?_)
                refine y_seq fun K94 hK94 => ?_
                refine y_block ?_
                refine y_seq fun K96 hK96 => ?_
                refine y_region ?_
                refine y_k (.slice n1_2.a n1_2.n n1_2.c : Value) w_53 rfl rfl rfl (by kernel_rfl) ?_
                refine y_k (.int .i64 i13_52 : Value) w_53 rfl rfl rfl (by kernel_rfl) ?_
                obtain ⟨hx97a, hx97b, a_54, hx97, h⟩ := h
                refine y_v (v := (.pointer (some (a_54.add (Int.toNat i13_52))) : Value)) (s := Instr.indexAt 71 (.slice n1_2.a n1_2.n n1_2.c : Value) (.int .i64 i13_52 : Value)) rfl rfl rfl (by kernel_rfl) (run_ixs1 (el := 3) (by kernel_rfl) (by kernel_rfl) hx97 hx97a hx97b) ?_
                obtain ⟨t96_55, hx98, h⟩ := h
                refine y_v (s := Instr.loadAt 3 (.pointer (some (a_54.add (Int.toNat i13_52))))) rfl rfl rfl (by kernel_rfl) (rn_load (by kernel_rfl) hx98) ?_
                refine y_v (v := (.int .i64 ((if t96_55 < 64 then t96_55 else 64)) : Value)) (s := Builtin.min_ #[3, 3] 3 #[.int .i64 64, .int .i64 t96_55]) rfl rfl rfl (by kernel_rfl) (run_min2) ?_
                refine y_v (v := (.int .i64 ((if ((if t96_55 < 64 then t96_55 else 64)) > 0 then ((if t96_55 < 64 then t96_55 else 64)) else 0)) : Value)) (s := Builtin.max_ #[3, 3] 3 #[.int .i64 0, .int .i64 ((if t96_55 < 64 then t96_55 else 64))]) rfl rfl rfl (by kernel_rfl) (run_max2) ?_
                refine y_k (.int .i64 ((if ((if t96_55 < 64 then t96_55 else 64)) > 0 then ((if t96_55 < 64 then t96_55 else 64)) else 0)) : Value) w_53 rfl rfl rfl (by kernel_rfl) ?_
                refine y_nil ?_
                refine y_then (hK96 _ _ ?_)
                refine y_seq fun K99 hK99 => ?_
                refine y_region ?_
                refine y_k (.pointer t77_50 : Value) w_53 rfl rfl rfl (by kernel_rfl) ?_
                refine y_k (.int .i64 ((if ((if t96_55 < 64 then t96_55 else 64)) > 0 then ((if t96_55 < 64 then t96_55 else 64)) else 0)) : Value) w_53 rfl rfl rfl (by kernel_rfl) ?_
                refine y_call rfl rfl rfl (by kernel_rfl) (h.mono ?_)
                rintro _ w_58 ⟨t102_56, t102_57, rfl, h⟩
                refine ⟨_, rfl, ?_⟩
                refine y_k (.tuple #[.int .u64 t102_56, .bool t102_57] : Value) w_58 rfl rfl rfl (by kernel_rfl) ?_
                refine y_k (.int .u64 t102_56 : Value) w_58 rfl rfl rfl (by kernel_rfl) ?_
                refine y_k (.bool t102_57 : Value) w_58 rfl rfl rfl (by kernel_rfl) ?_
                refine y_k (.int .u64 t102_56 : Value) w_58 rfl rfl rfl (by kernel_rfl) ?_
                refine y_k (.bool t102_57 : Value) w_58 rfl rfl rfl (by kernel_rfl) ?_
                refine y_nil ?_
                refine y_then (hK99 _ _ ?_)
                refine y_seq fun K100 hK100 => ?_
                refine y_region ?_
                refine y_k (.slice v0_1.a v0_1.n v0_1.c : Value) w_58 rfl rfl rfl (by kernel_rfl) ?_
                refine y_k (.int .i64 i13_52 : Value) w_58 rfl rfl rfl (by kernel_rfl) ?_
                obtain ⟨hx101a, hx101b, a_59, hx101, h⟩ := h
                refine y_v (v := (.pointer (some (a_59.add (Int.toNat i13_52))) : Value)) (s := Instr.indexAt 80 (.slice v0_1.a v0_1.n v0_1.c : Value) (.int .i64 i13_52 : Value)) rfl rfl rfl (by kernel_rfl) (run_ixs1 (el := 23) (by kernel_rfl) (by kernel_rfl) hx101 hx101a hx101b) ?_
                obtain ⟨t108_60, hx102, h⟩ := h
                refine y_v (s := Instr.loadAt 23 (.pointer (some (a_59.add (Int.toNat i13_52))))) rfl rfl rfl (by kernel_rfl) (rn_load (by kernel_rfl) hx102) ?_
                refine y_k (.int .u64 t108_60 : Value) w_58 rfl rfl rfl (by kernel_rfl) ?_
                refine y_nil ?_
                refine y_then (hK100 _ _ ?_)
                refine y_seq fun K103 hK103 => ?_
                have hjK103 : ∀ (f : Fr) (want17_64 : Int) (w_65 : World), f 0 = (.slice v0_1.a v0_1.n v0_1.c : Value) → f 1 = (.slice n1_2.a n1_2.n n1_2.c : Value) → f 10 = (.int .i64 k10_9 : Value) → f 12 = (.pointer t77_50 : Value) → f 13 = (.int .i64 i13_52 : Value) → f 15 = (.int .u64 t102_56 : Value) → f 16 = (.bool t102_57 : Value) → f 17 = (.int .u64 want17_64 : Value) → F9_j6 K i13_52 next90 t102_56 t102_57 want17_64 w_65 → WK K103 147 f w_65 := by
                  intro f want17_64 w_65 e0 e1 e10 e12 e13 e15 e16 e17 h
                  refine y_atf (upd_id (upd_id (upd_id (upd_id (upd_id (upd_id (upd_id (upd_id rfl e0) e1) e10) e12) e13) e15) e16) e17) ?_
                  clear e0 e1 e10 e12 e13 e15 e16 e17
                  unfold F9_j6 at h
                  refine hK103 _ _ ?_
                  refine y_seq fun K109 hK109 => ?_
                  refine y_region ?_
                  refine y_k (.bool t102_57 : Value) w_65 rfl rfl rfl (by kernel_rfl) ?_
                  refine y_k (.bool (!(t102_57)) : Value) w_65 rfl rfl rfl (by kernel_rfl) ?_
                  refine y_k (.bool (!(t102_57)) : Value) w_65 rfl rfl rfl (by kernel_rfl) ?_
                  refine y_fork (!(t102_57)) (fun hb110 => ?_) (fun hb110 => ?_)
                  · replace h := h.1 ((not_true_of hb110))
                    refine y_frame (upd_id (i := 121) (v := .bool true) rfl (congrArg Value.bool hb110)) ?_
                    refine y_gno rfl rfl rfl rfl ?_
                    refine y_gno rfl rfl rfl rfl ?_
                    refine y_gno rfl rfl rfl rfl ?_
                    refine y_k (.bool true : Value) w_65 rfl rfl rfl (by kernel_rfl) ?_
                    refine y_nil ?_
                    refine y_then (hK109 _ _ ?_)
                    refine y_cond_t rfl rfl ?_
                    refine y_seq fun K111 hK111 => ?_
                    refine y_region ?_
                    refine y_k (.bool false : Value) w_65 rfl rfl rfl (by kernel_rfl) ?_
                    refine y_nil ?_
                    refine y_then (hK111 _ _ ?_)
                    refine y_ret ?_
                    repeat (first | refine e_then_r ?_ | refine e_block_r ?_)
                    exact (hQ0 _ _ _ (res1 (v := (.bool false : Value)) rfl rfl rfl) ⟨_, rfl, h⟩).1
                  · replace h := h.2 ((not_false_of hb110))
                    refine y_frame (upd_id (i := 121) (v := .bool false) rfl (congrArg Value.bool hb110)) ?_
                    refine y_gyes rfl rfl rfl ?_
                    refine y_k (.int .u64 t102_56 : Value) w_65 rfl rfl rfl (by kernel_rfl) ?_
                    refine y_gyes rfl rfl rfl ?_
                    refine y_k (.int .u64 want17_64 : Value) w_65 rfl rfl rfl (by kernel_rfl) ?_
                    refine y_gyes rfl rfl rfl ?_
                    refine y_k (.bool ((t102_56 != want17_64)) : Value) w_65 rfl rfl rfl (by kernel_rfl) ?_
                    refine y_k (.bool ((t102_56 != want17_64)) : Value) w_65 rfl rfl rfl (by kernel_rfl) ?_
                    refine y_nil ?_
                    refine y_then (hK109 _ _ ?_)
                    refine y_cond ((t102_56 != want17_64)) rfl rfl (fun hb113 => ?_) (fun hb113 => ?_)
                    · replace h := h.1 (bne_iff_ne.mp hb113)
                      refine y_seq fun K112 hK112 => ?_
                      refine y_region ?_
                      refine y_k (.bool false : Value) w_65 rfl rfl rfl (by kernel_rfl) ?_
                      refine y_nil ?_
                      refine y_then (hK112 _ _ ?_)
                      refine y_ret ?_
                      repeat (first | refine e_then_r ?_ | refine e_block_r ?_)
                      exact (hQ0 _ _ _ (res1 (v := (.bool false : Value)) rfl rfl rfl) ⟨_, rfl, h⟩).1
                    · replace h := h.2 (bne_eq_false_iff_eq.mp hb113)
                      refine y_skip ?_
                      refine e_block_n ?_
                      refine y_then (hK94 _ _ ?_)
                      refine y_region ?_
                      refine y_k (.int .i64 i13_52 : Value) w_65 rfl rfl rfl (by kernel_rfl) ?_
                      refine y_k (.int .i64 (IntKind.i64.wrap (i13_52 + 1)) : Value) w_65 rfl rfl rfl (by kernel_rfl) ?_
                      refine y_k (.int .i64 (IntKind.i64.wrap (i13_52 + 1)) : Value) w_65 rfl rfl rfl (by kernel_rfl) ?_
                      refine y_nil ?_
                      refine y_then (hN91 (IntKind.i64.wrap (i13_52 + 1)) _ _ h ?_)
                      dsimp only
                      refine upd_id ?_ rfl
                      refine upd_id ?_ rfl
                      refine upd_id ?_ rfl
                      refine upd_id ?_ rfl
                      refine upd_id ?_ rfl
                      rfl
                refine y_seq fun K104 hK104 => ?_
                refine y_region ?_
                refine y_k (.int .i64 ((if ((if t96_55 < 64 then t96_55 else 64)) > 0 then ((if t96_55 < 64 then t96_55 else 64)) else 0)) : Value) w_58 rfl rfl rfl (by kernel_rfl) ?_
                refine y_k (.bool (decide (((if ((if t96_55 < 64 then t96_55 else 64)) > 0 then ((if t96_55 < 64 then t96_55 else 64)) else 0)) < 64)) : Value) w_58 rfl rfl rfl (by kernel_rfl) ?_
                refine y_nil ?_
                refine y_then (hK104 _ _ ?_)
                refine y_cond (decide (((if ((if t96_55 < 64 then t96_55 else 64)) > 0 then ((if t96_55 < 64 then t96_55 else 64)) else 0)) < 64)) rfl rfl (fun hb115 => ?_) (fun hb115 => ?_)
                · replace h := h.1 (of_decide_eq_true hb115)
                  refine q_region (by kernel_rfl) (by kernel_rfl) fun Qq105 hQq105 => ?_
                  refine q_k (.slice v0_1.a v0_1.n v0_1.c : Value) rfl rfl rfl (fun _ => by kernel_rfl) ?_
                  refine q_k (.int .i64 i13_52 : Value) rfl rfl rfl (fun _ => by kernel_rfl) ?_
                  obtain ⟨hx106a, hx106b, a_61, hx106, h⟩ := h
                  refine q_v (v := (.pointer (some (a_61.add (Int.toNat i13_52))) : Value)) (s := Instr.indexAt 80 (.slice v0_1.a v0_1.n v0_1.c : Value) (.int .i64 i13_52 : Value)) rfl rfl rfl (by kernel_rfl) (fun _ => run_ixs1 (el := 23) (by kernel_rfl) (by kernel_rfl) hx106 hx106a hx106b) ?_
                  obtain ⟨t114_62, hx107, h⟩ := h
                  refine q_v (v := (.int .u64 t114_62 : Value)) (s := Instr.loadAt 23 (.pointer (some (a_61.add (Int.toNat i13_52))))) rfl rfl rfl (by kernel_rfl) (fun _ => rn_load (by kernel_rfl) hx107) ?_
                  refine q_k (.int .i64 ((if ((if t96_55 < 64 then t96_55 else 64)) > 0 then ((if t96_55 < 64 then t96_55 else 64)) else 0)) : Value) rfl rfl rfl (fun _ => by kernel_rfl) ?_
                  obtain ⟨hx108, h⟩ := h
                  refine q_k (.int .u64 (ishl .u64 1 ((if ((if t96_55 < 64 then t96_55 else 64)) > 0 then ((if t96_55 < 64 then t96_55 else 64)) else 0))) : Value) rfl rfl rfl (fun _ => run_shl hx108 rfl rfl) ?_
                  refine q_k (.int .u64 (IntKind.u64.wrap ((ishl .u64 1 ((if ((if t96_55 < 64 then t96_55 else 64)) > 0 then ((if t96_55 < 64 then t96_55 else 64)) else 0))) - 1)) : Value) rfl rfl rfl (fun _ => by kernel_rfl) ?_
                  refine q_k (.int .u64 (ibits .and .u64 t114_62 (IntKind.u64.wrap ((ishl .u64 1 ((if ((if t96_55 < 64 then t96_55 else 64)) > 0 then ((if t96_55 < 64 then t96_55 else 64)) else 0))) - 1))) : Value) rfl rfl rfl (fun _ => by kernel_rfl) ?_
                  refine q_k (.int .u64 (ibits .and .u64 t114_62 (IntKind.u64.wrap ((ishl .u64 1 ((if ((if t96_55 < 64 then t96_55 else 64)) > 0 then ((if t96_55 < 64 then t96_55 else 64)) else 0))) - 1))) : Value) rfl rfl rfl (fun _ => by kernel_rfl) ?_
                  refine q_nil (hQq105 _ fun m114 => ?_)
                  replace h := h _ ⟨m114, rfl⟩
                  generalize w_58.drewN m114 = w_63 at h ⊢
                  exact y_then (hjK103 _ (ibits .and .u64 t114_62 (IntKind.u64.wrap ((ishl .u64 1 ((if ((if t96_55 < 64 then t96_55 else 64)) > 0 then ((if t96_55 < 64 then t96_55 else 64)) else 0))) - 1))) w_63 rfl rfl rfl rfl rfl rfl rfl rfl h)
                · replace h := h.2 (of_decide_eq_false hb115)
                  refine y_skip ?_
                  exact y_then (hjK103 _ t108_60 w_58 rfl rfl rfl rfl rfl rfl rfl rfl h)
              · replace h := h.2 (of_decide_eq_false hb122)
                refine y_exit ?_
                repeat (first | refine e_then_x ?_ | refine e_block_y rfl ?_)
                refine e_block_x ?_
                refine y_then (hK87 _ _ ?_)
                refine y_seq fun K116 hK116 => ?_
                refine y_region ?_
                refine y_k (.pointer t77_50 : Value) w_53 rfl rfl rfl (by kernel_rfl) ?_
                refine y_call rfl rfl rfl (by kernel_rfl) (h.mono ?_)
                rintro _ w_67 ⟨t127_66, rfl, h⟩
                refine ⟨_, rfl, ?_⟩
                refine y_k (.int .i64 t127_66 : Value) w_67 rfl rfl rfl (by kernel_rfl) ?_
                refine y_nil ?_
                refine y_then (hK116 _ _ ?_)
                refine y_seq fun K117 hK117 => ?_
                refine y_region ?_
                refine y_k (.pointer t77_50 : Value) w_67 rfl rfl rfl (by kernel_rfl) ?_
                refine y_k (.int .i64 t127_66 : Value) w_67 rfl rfl rfl (by kernel_rfl) ?_
                refine y_call rfl rfl rfl (by kernel_rfl) (h.mono ?_)
                rintro _ w_70 ⟨t131_68, t131_69, rfl, h⟩
                refine ⟨_, rfl, ?_⟩
                refine y_k (.tuple #[.int .u64 t131_68, .bool t131_69] : Value) w_70 rfl rfl rfl (by kernel_rfl) ?_
                refine y_k (.int .u64 t131_68 : Value) w_70 rfl rfl rfl (by kernel_rfl) ?_
                refine y_k (.bool t131_69 : Value) w_70 rfl rfl rfl (by kernel_rfl) ?_
                refine y_k (.int .u64 t131_68 : Value) w_70 rfl rfl rfl (by kernel_rfl) ?_
                refine y_k (.bool t131_69 : Value) w_70 rfl rfl rfl (by kernel_rfl) ?_
                refine y_nil ?_
                refine y_then (hK117 _ _ ?_)
                refine y_seq fun K118 hK118 => ?_
                have hjK118 : ∀ (f : Fr) (t6_71 : Bool) (w_72 : World), f 6 = (.bool t6_71 : Value) → F9_j7 K t6_71 w_72 → WK K118 147 f w_72 := by
                  intro f t6_71 w_72 e6 h
                  refine y_atf (upd_id rfl e6) ?_
                  clear e6
                  unfold F9_j7 at h
                  refine hK118 _ _ ?_
                  refine y_ret ?_
                  repeat (first | refine e_then_r ?_ | refine e_block_r ?_)
                  exact (hQ0 _ _ _ (res1 (v := (.bool t6_71 : Value)) rfl rfl rfl) ⟨_, rfl, h⟩).1
                refine y_region ?_
                refine y_k (.int .i64 t127_66 : Value) w_70 rfl rfl rfl (by kernel_rfl) ?_
                refine y_k (.bool (decide (t127_66 ≥ 0)) : Value) w_70 rfl rfl rfl (by kernel_rfl) ?_
                refine y_k (.bool (decide (t127_66 ≥ 0)) : Value) w_70 rfl rfl rfl (by kernel_rfl) ?_
                refine y_fork (decide (t127_66 ≥ 0)) (fun hb119 => ?_) (fun hb119 => ?_)
                · replace h := h.1 (of_decide_eq_true hb119)
                  refine y_frame (upd_id (i := 136) (v := .bool true) rfl (congrArg Value.bool hb119)) ?_
                  refine y_gyes rfl rfl rfl ?_
                  refine y_k (.int .i64 t127_66 : Value) w_70 rfl rfl rfl (by kernel_rfl) ?_
                  refine y_gyes rfl rfl rfl ?_
                  refine y_k (.bool (decide (t127_66 < 8)) : Value) w_70 rfl rfl rfl (by kernel_rfl) ?_
                  refine y_k (.bool (decide (t127_66 < 8)) : Value) w_70 rfl rfl rfl (by kernel_rfl) ?_
                  refine y_k (.bool (decide (t127_66 < 8)) : Value) w_70 rfl rfl rfl (by kernel_rfl) ?_
                  refine y_fork (decide (t127_66 < 8)) (fun hb120 => ?_) (fun hb120 => ?_)
                  · replace h := h.1 (of_decide_eq_true hb120)
                    refine y_frame (upd_id (i := 140) (v := .bool true) rfl (congrArg Value.bool hb120)) ?_
                    refine y_gyes rfl rfl rfl ?_
                    refine y_k (.bool t131_69 : Value) w_70 rfl rfl rfl (by kernel_rfl) ?_
                    refine y_k (.bool t131_69 : Value) w_70 rfl rfl rfl (by kernel_rfl) ?_
                    refine y_k (.bool t131_69 : Value) w_70 rfl rfl rfl (by kernel_rfl) ?_
                    refine y_fork (t131_69) (fun hb121 => ?_) (fun hb121 => ?_)
                    · replace h := h.1 (hb121)
                      refine y_frame (upd_id (i := 143) (v := .bool true) rfl (congrArg Value.bool hb121)) ?_
                      refine y_gyes rfl rfl rfl ?_
                      refine y_k (.int .u64 t131_68 : Value) w_70 rfl rfl rfl (by kernel_rfl) ?_
                      refine y_gyes rfl rfl rfl ?_
                      refine y_k (.bool ((t131_68 == 0)) : Value) w_70 rfl rfl rfl (by kernel_rfl) ?_
                      refine y_k (.bool ((t131_68 == 0)) : Value) w_70 rfl rfl rfl (by kernel_rfl) ?_
                      refine y_k (.bool ((t131_68 == 0)) : Value) w_70 rfl rfl rfl (by kernel_rfl) ?_
                      refine y_nil ?_
                      exact y_then (hjK118 _ ((t131_68 == 0)) w_70 rfl h)
                    · replace h := h.2 (hb121)
                      refine y_frame (upd_id (i := 143) (v := .bool false) rfl (congrArg Value.bool hb121)) ?_
                      refine y_gno rfl rfl rfl rfl ?_
                      refine y_gno rfl rfl rfl rfl ?_
                      refine y_k (.bool false : Value) w_70 rfl rfl rfl (by kernel_rfl) ?_
                      refine y_k (.bool false : Value) w_70 rfl rfl rfl (by kernel_rfl) ?_
                      refine y_nil ?_
                      exact y_then (hjK118 _ false w_70 rfl h)
                  · replace h := h.2 (of_decide_eq_false hb120)
                    refine y_frame (upd_id (i := 140) (v := .bool false) rfl (congrArg Value.bool hb120)) ?_
                    refine y_gno rfl rfl rfl rfl ?_
                    refine y_k (.bool false : Value) w_70 rfl rfl rfl (by kernel_rfl) ?_
                    refine y_k (.bool false : Value) w_70 rfl rfl rfl (by kernel_rfl) ?_
                    refine y_gno rfl rfl rfl rfl ?_
                    refine y_gno rfl rfl rfl rfl ?_
                    refine y_k (.bool false : Value) w_70 rfl rfl rfl (by kernel_rfl) ?_
                    refine y_k (.bool false : Value) w_70 rfl rfl rfl (by kernel_rfl) ?_
                    refine y_nil ?_
                    exact y_then (hjK118 _ false w_70 rfl h)
                · replace h := h.2 (of_decide_eq_false hb119)
                  refine y_frame (upd_id (i := 136) (v := .bool false) rfl (congrArg Value.bool hb119)) ?_
                  refine y_gno rfl rfl rfl rfl ?_
                  refine y_gno rfl rfl rfl rfl ?_
                  refine y_k (.bool false : Value) w_70 rfl rfl rfl (by kernel_rfl) ?_
                  refine y_k (.bool false : Value) w_70 rfl rfl rfl (by kernel_rfl) ?_
                  refine y_gno rfl rfl rfl rfl ?_
                  refine y_k (.bool false : Value) w_70 rfl rfl rfl (by kernel_rfl) ?_
                  refine y_k (.bool false : Value) w_70 rfl rfl rfl (by kernel_rfl) ?_
                  refine y_gno rfl rfl rfl rfl ?_
                  refine y_gno rfl rfl rfl rfl ?_
                  refine y_k (.bool false : Value) w_70 rfl rfl rfl (by kernel_rfl) ?_
                  refine y_k (.bool false : Value) w_70 rfl rfl rfl (by kernel_rfl) ?_
                  refine y_nil ?_
                  exact y_then (hjK118 _ false w_70 rfl h)
      · replace h := h.2 (of_decide_eq_false hb17)
        refine y_frame (upd_id (i := 33) (v := .bool false) rfl (congrArg Value.bool hb17)) ?_
        refine y_gno rfl rfl rfl rfl ?_
        refine y_gno rfl rfl rfl rfl ?_
        refine y_gno rfl rfl rfl rfl ?_
        refine y_gno rfl rfl rfl rfl ?_
        refine y_k (.bool false : Value) w_10 rfl rfl rfl (by kernel_rfl) ?_
        refine y_k (.bool false : Value) w_10 rfl rfl rfl (by kernel_rfl) ?_
        refine y_gno rfl rfl rfl rfl ?_
        refine y_gno rfl rfl rfl rfl ?_
        refine y_k (.bool false : Value) w_10 rfl rfl rfl (by kernel_rfl) ?_
        refine y_nil ?_
        refine y_then (hK16 _ _ ?_)
        refine y_cond_f rfl rfl ?_
        refine y_exit ?_
        repeat (first | refine e_then_x ?_ | refine e_block_y rfl ?_)
        refine e_block_x ?_
        refine y_then (hK11 _ _ ?_)
        refine y_seq fun K124 hK124 => ?_
        refine y_region ?_
        refine y_k (.pointer t22_6 : Value) w_10 rfl rfl rfl (by kernel_rfl) ?_
        refine y_call rfl rfl rfl (by kernel_rfl) (h.mono ?_)
        rintro _ w_74 ⟨t75_73, rfl, h⟩
        refine ⟨_, rfl, ?_⟩
        refine y_k (.slice t75_73.a t75_73.n t75_73.c : Value) w_74 rfl rfl rfl (by kernel_rfl) ?_
        refine y_nil ?_
        refine y_then (hK124 _ _ ?_)
        refine y_seq fun K125 hK125 => ?_
        refine y_region ?_
        refine y_k (.slice t75_73.a t75_73.n t75_73.c : Value) w_74 rfl rfl rfl (by kernel_rfl) ?_
        refine y_call rfl rfl rfl (by kernel_rfl) (h.mono ?_)
        rintro _ w_76 ⟨t77_75, rfl, h⟩
        refine ⟨_, rfl, ?_⟩
        refine y_k (.pointer t77_75 : Value) w_76 rfl rfl rfl (by kernel_rfl) ?_
        refine y_nil ?_
        refine y_then (hK125 _ _ ?_)
        refine y_seq fun K126 hK126 => ?_
        refine y_seq fun K127 hK127 => ?_
        refine y_region ?_
        refine y_k (.pointer t77_75 : Value) w_76 rfl rfl rfl (by kernel_rfl) ?_
        refine y_v (v := (.bool t77_75.isNone : Value)) (s := do eqGuard .eql 72 (Operand.tmp 78) (Operand.const (Value.pointer none)) (.pointer t77_75 : Value) (.pointer none : Value); binOp .eql 72 (.pointer t77_75 : Value) (.pointer none : Value)) rfl rfl rfl (by kernel_rfl) (run_eql_ptrnil (by kernel_rfl)) ?_
        refine y_k (.bool t77_75.isNone : Value) w_76 rfl rfl rfl (by kernel_rfl) ?_
        refine y_fork (t77_75.isNone) (fun hb128 => ?_) (fun hb128 => ?_)
        · replace h := h.1 (hb128)
          refine y_frame (upd_id (i := 80) (v := .bool true) rfl (congrArg Value.bool hb128)) ?_
          refine y_gno rfl rfl rfl rfl ?_
          refine y_gno rfl rfl rfl rfl ?_
          refine y_gno rfl rfl rfl rfl ?_
          refine y_gno rfl rfl rfl rfl ?_
          refine y_gno rfl rfl rfl rfl ?_
          refine y_gno rfl rfl rfl rfl ?_
          refine y_k (.bool true : Value) w_76 rfl rfl rfl (by kernel_rfl) ?_
          refine y_nil ?_
          refine y_then (hK127 _ _ ?_)
          refine y_cond_t rfl rfl ?_
          refine y_seq fun K129 hK129 => ?_
          refine y_region ?_
          refine y_k (.bool false : Value) w_76 rfl rfl rfl (by kernel_rfl) ?_
          refine y_nil ?_
          refine y_then (hK129 _ _ ?_)
          refine y_ret ?_
          repeat (first | refine e_then_r ?_ | refine e_block_r ?_)
          exact (hQ0 _ _ _ (res1 (v := (.bool false : Value)) rfl rfl rfl) ⟨_, rfl, h⟩).1
        · replace h := h.2 (hb128)
          refine y_frame (upd_id (i := 80) (v := .bool false) rfl (congrArg Value.bool hb128)) ?_
          refine y_gyes rfl rfl rfl ?_
          refine y_k (.slice t75_73.a t75_73.n t75_73.c : Value) w_76 rfl rfl rfl (by kernel_rfl) ?_
          refine y_gyes rfl rfl rfl ?_
          refine y_k (.int .i64 ((t75_73.n : Int)) : Value) w_76 rfl rfl rfl (by kernel_rfl) ?_
          refine y_gyes rfl rfl rfl ?_
          refine y_k (.int .i64 total9_8 : Value) w_76 rfl rfl rfl (by kernel_rfl) ?_
          refine y_gyes rfl rfl rfl ?_
          refine y_k (.int .i64 (IntKind.i64.wrap (total9_8 + 7)) : Value) w_76 rfl rfl rfl (by kernel_rfl) ?_
          refine y_gyes rfl rfl rfl ?_
          refine y_k (.int .i64 (IntKind.i64.wrap (Int.tdiv (IntKind.i64.wrap (total9_8 + 7)) 8)) : Value) w_76 rfl rfl rfl (by kernel_rfl) ?_
          refine y_gyes rfl rfl rfl ?_
          refine y_k (.bool (((((t75_73.n : Int))) != ((IntKind.i64.wrap (Int.tdiv (IntKind.i64.wrap (total9_8 + 7)) 8))))) : Value) w_76 rfl rfl rfl (by kernel_rfl) ?_
          refine y_k (.bool (((((t75_73.n : Int))) != ((IntKind.i64.wrap (Int.tdiv (IntKind.i64.wrap (total9_8 + 7)) 8))))) : Value) w_76 rfl rfl rfl (by kernel_rfl) ?_
          refine y_nil ?_
          refine y_then (hK127 _ _ ?_)
          refine y_cond (((((t75_73.n : Int))) != ((IntKind.i64.wrap (Int.tdiv (IntKind.i64.wrap (total9_8 + 7)) 8))))) rfl rfl (fun hb167 => ?_) (fun hb167 => ?_)
          · replace h := h.1 (bne_iff_ne.mp hb167)
            refine y_seq fun K130 hK130 => ?_
            refine y_region ?_
            refine y_k (.bool false : Value) w_76 rfl rfl rfl (by kernel_rfl) ?_
            refine y_nil ?_
            refine y_then (hK130 _ _ ?_)
            refine y_ret ?_
            repeat (first | refine e_then_r ?_ | refine e_block_r ?_)
            exact (hQ0 _ _ _ (res1 (v := (.bool false : Value)) rfl rfl rfl) ⟨_, rfl, h⟩).1
          · replace h := h.2 (bne_eq_false_iff_eq.mp hb167)
            refine y_skip ?_
            refine y_then (hK126 _ _ ?_)
            refine y_seq fun K131 hK131 => ?_
            refine y_seq fun K132 hK132 => ?_
            refine y_region ?_
            refine y_k (.int .i64 0 : Value) w_76 rfl rfl rfl (by kernel_rfl) ?_
            refine y_nil ?_
            refine y_then (hK132 _ _ ?_)
            refine y_block ?_
            refine y_loop (S := Int) (fun s j => match s with | (i13_77) => upd (upd (upd (upd (upd (j) 0 (.slice v0_1.a v0_1.n v0_1.c : Value)) 1 (.slice n1_2.a n1_2.n n1_2.c : Value)) 10 (.int .i64 k10_9 : Value)) 12 (.pointer t77_75 : Value)) 13 (.int .i64 i13_77 : Value)) (0) ?_ h ?_
            · dsimp only
              refine upd_id ?_ rfl
              refine upd_id ?_ rfl
              refine upd_id ?_ rfl
              refine upd_id ?_ rfl
              refine upd_id ?_ rfl
              rfl
            rintro KN135 next134 hN135 i13_77 j w_78 h
            unfold F9_l8 at h
            refine y_seq fun K136 hK136 => ?_
            refine y_seq fun K137 hK137 => ?_
            refine y_region ?_
            refine y_k (.int .i64 i13_77 : Value) w_78 rfl rfl rfl (by kernel_rfl) ?_
            refine y_k (.int .i64 k10_9 : Value) w_78 rfl rfl rfl (by kernel_rfl) ?_
            refine y_k (.bool (decide (i13_77 < k10_9)) : Value) w_78 rfl rfl rfl (by kernel_rfl) ?_
            refine y_nil ?_
            refine y_then (hK137 _ _ ?_)
            refine y_cond (decide (i13_77 < k10_9)) rfl rfl (fun hb166 => ?_) (fun hb166 => ?_)
            · replace h := h.1 (of_decide_eq_true hb166)
              refine y_skip ?_
              refine y_then (hK136 _ _ ?_)
              refine y_seq fun K138 hK138 => ?_
              refine y_block ?_
              refine y_seq fun K140 hK140 => ?_
              refine y_region ?_
              refine y_k (.slice n1_2.a n1_2.n n1_2.c : Value) w_78 rfl rfl rfl (by kernel_rfl) ?_
              refine y_k (.int .i64 i13_77 : Value) w_78 rfl rfl rfl (by kernel_rfl) ?_
              obtain ⟨hx141a, hx141b, a_79, hx141, h⟩ := h
              refine y_v (v := (.pointer (some (a_79.add (Int.toNat i13_77))) : Value)) (s := Instr.indexAt 71 (.slice n1_2.a n1_2.n n1_2.c : Value) (.int .i64 i13_77 : Value)) rfl rfl rfl (by kernel_rfl) (run_ixs1 (el := 3) (by kernel_rfl) (by kernel_rfl) hx141 hx141a hx141b) ?_
              obtain ⟨t96_80, hx142, h⟩ := h
              refine y_v (s := Instr.loadAt 3 (.pointer (some (a_79.add (Int.toNat i13_77))))) rfl rfl rfl (by kernel_rfl) (rn_load (by kernel_rfl) hx142) ?_
              refine y_v (v := (.int .i64 ((if t96_80 < 64 then t96_80 else 64)) : Value)) (s := Builtin.min_ #[3, 3] 3 #[.int .i64 64, .int .i64 t96_80]) rfl rfl rfl (by kernel_rfl) (run_min2) ?_
              refine y_v (v := (.int .i64 ((if ((if t96_80 < 64 then t96_80 else 64)) > 0 then ((if t96_80 < 64 then t96_80 else 64)) else 0)) : Value)) (s := Builtin.max_ #[3, 3] 3 #[.int .i64 0, .int .i64 ((if t96_80 < 64 then t96_80 else 64))]) rfl rfl rfl (by kernel_rfl) (run_max2) ?_
              refine y_k (.int .i64 ((if ((if t96_80 < 64 then t96_80 else 64)) > 0 then ((if t96_80 < 64 then t96_80 else 64)) else 0)) : Value) w_78 rfl rfl rfl (by kernel_rfl) ?_
              refine y_nil ?_
              refine y_then (hK140 _ _ ?_)
              refine y_seq fun K143 hK143 => ?_
              refine y_region ?_
              refine y_k (.pointer t77_75 : Value) w_78 rfl rfl rfl (by kernel_rfl) ?_
              refine y_k (.int .i64 ((if ((if t96_80 < 64 then t96_80 else 64)) > 0 then ((if t96_80 < 64 then t96_80 else 64)) else 0)) : Value) w_78 rfl rfl rfl (by kernel_rfl) ?_
              refine y_call rfl rfl rfl (by kernel_rfl) (h.mono ?_)
              rintro _ w_83 ⟨t102_81, t102_82, rfl, h⟩
              refine ⟨_, rfl, ?_⟩
              refine y_k (.tuple #[.int .u64 t102_81, .bool t102_82] : Value) w_83 rfl rfl rfl (by kernel_rfl) ?_
              refine y_k (.int .u64 t102_81 : Value) w_83 rfl rfl rfl (by kernel_rfl) ?_
              refine y_k (.bool t102_82 : Value) w_83 rfl rfl rfl (by kernel_rfl) ?_
              refine y_k (.int .u64 t102_81 : Value) w_83 rfl rfl rfl (by kernel_rfl) ?_
              refine y_k (.bool t102_82 : Value) w_83 rfl rfl rfl (by kernel_rfl) ?_
              refine y_nil ?_
              refine y_then (hK143 _ _ ?_)
              refine y_seq fun K144 hK144 => ?_
              refine y_region ?_
              refine y_k (.slice v0_1.a v0_1.n v0_1.c : Value) w_83 rfl rfl rfl (by kernel_rfl) ?_
              refine y_k (.int .i64 i13_77 : Value) w_83 rfl rfl rfl (by kernel_rfl) ?_
              obtain ⟨hx145a, hx145b, a_84, hx145, h⟩ := h
              refine y_v (v := (.pointer (some (a_84.add (Int.toNat i13_77))) : Value)) (s := Instr.indexAt 80 (.slice v0_1.a v0_1.n v0_1.c : Value) (.int .i64 i13_77 : Value)) rfl rfl rfl (by kernel_rfl) (run_ixs1 (el := 23) (by kernel_rfl) (by kernel_rfl) hx145 hx145a hx145b) ?_
              obtain ⟨t108_85, hx146, h⟩ := h
              refine y_v (s := Instr.loadAt 23 (.pointer (some (a_84.add (Int.toNat i13_77))))) rfl rfl rfl (by kernel_rfl) (rn_load (by kernel_rfl) hx146) ?_
              refine y_k (.int .u64 t108_85 : Value) w_83 rfl rfl rfl (by kernel_rfl) ?_
              refine y_nil ?_
              refine y_then (hK144 _ _ ?_)
              refine y_seq fun K147 hK147 => ?_
              have hjK147 : ∀ (f : Fr) (want17_89 : Int) (w_90 : World), f 0 = (.slice v0_1.a v0_1.n v0_1.c : Value) → f 1 = (.slice n1_2.a n1_2.n n1_2.c : Value) → f 10 = (.int .i64 k10_9 : Value) → f 12 = (.pointer t77_75 : Value) → f 13 = (.int .i64 i13_77 : Value) → f 15 = (.int .u64 t102_81 : Value) → f 16 = (.bool t102_82 : Value) → f 17 = (.int .u64 want17_89 : Value) → F9_j9 K i13_77 next134 t102_81 t102_82 want17_89 w_90 → WK K147 147 f w_90 := by
                intro f want17_89 w_90 e0 e1 e10 e12 e13 e15 e16 e17 h
                refine y_atf (upd_id (upd_id (upd_id (upd_id (upd_id (upd_id (upd_id (upd_id rfl e0) e1) e10) e12) e13) e15) e16) e17) ?_
                clear e0 e1 e10 e12 e13 e15 e16 e17
                unfold F9_j9 at h
                refine hK147 _ _ ?_
                refine y_seq fun K153 hK153 => ?_
                refine y_region ?_
                refine y_k (.bool t102_82 : Value) w_90 rfl rfl rfl (by kernel_rfl) ?_
                refine y_k (.bool (!(t102_82)) : Value) w_90 rfl rfl rfl (by kernel_rfl) ?_
                refine y_k (.bool (!(t102_82)) : Value) w_90 rfl rfl rfl (by kernel_rfl) ?_
                refine y_fork (!(t102_82)) (fun hb154 => ?_) (fun hb154 => ?_)
                · replace h := h.1 ((not_true_of hb154))
                  refine y_frame (upd_id (i := 121) (v := .bool true) rfl (congrArg Value.bool hb154)) ?_
                  refine y_gno rfl rfl rfl rfl ?_
                  refine y_gno rfl rfl rfl rfl ?_
                  refine y_gno rfl rfl rfl rfl ?_
                  refine y_k (.bool true : Value) w_90 rfl rfl rfl (by kernel_rfl) ?_
                  refine y_nil ?_
                  refine y_then (hK153 _ _ ?_)
                  refine y_cond_t rfl rfl ?_
                  refine y_seq fun K155 hK155 => ?_
                  refine y_region ?_
                  refine y_k (.bool false : Value) w_90 rfl rfl rfl (by kernel_rfl) ?_
                  refine y_nil ?_
                  refine y_then (hK155 _ _ ?_)
                  refine y_ret ?_
                  repeat (first | refine e_then_r ?_ | refine e_block_r ?_)
                  exact (hQ0 _ _ _ (res1 (v := (.bool false : Value)) rfl rfl rfl) ⟨_, rfl, h⟩).1
                · replace h := h.2 ((not_false_of hb154))
                  refine y_frame (upd_id (i := 121) (v := .bool false) rfl (congrArg Value.bool hb154)) ?_
                  refine y_gyes rfl rfl rfl ?_
                  refine y_k (.int .u64 t102_81 : Value) w_90 rfl rfl rfl (by kernel_rfl) ?_
                  refine y_gyes rfl rfl rfl ?_
                  refine y_k (.int .u64 want17_89 : Value) w_90 rfl rfl rfl (by kernel_rfl) ?_
                  refine y_gyes rfl rfl rfl ?_
                  refine y_k (.bool ((t102_81 != want17_89)) : Value) w_90 rfl rfl rfl (by kernel_rfl) ?_
                  refine y_k (.bool ((t102_81 != want17_89)) : Value) w_90 rfl rfl rfl (by kernel_rfl) ?_
                  refine y_nil ?_
                  refine y_then (hK153 _ _ ?_)
                  refine y_cond ((t102_81 != want17_89)) rfl rfl (fun hb157 => ?_) (fun hb157 => ?_)
                  · replace h := h.1 (bne_iff_ne.mp hb157)
                    refine y_seq fun K156 hK156 => ?_
                    refine y_region ?_
                    refine y_k (.bool false : Value) w_90 rfl rfl rfl (by kernel_rfl) ?_
                    refine y_nil ?_
                    refine y_then (hK156 _ _ ?_)
                    refine y_ret ?_
                    repeat (first | refine e_then_r ?_ | refine e_block_r ?_)
                    exact (hQ0 _ _ _ (res1 (v := (.bool false : Value)) rfl rfl rfl) ⟨_, rfl, h⟩).1
                  · replace h := h.2 (bne_eq_false_iff_eq.mp hb157)
                    refine y_skip ?_
                    refine e_block_n ?_
                    refine y_then (hK138 _ _ ?_)
                    refine y_region ?_
                    refine y_k (.int .i64 i13_77 : Value) w_90 rfl rfl rfl (by kernel_rfl) ?_
                    refine y_k (.int .i64 (IntKind.i64.wrap (i13_77 + 1)) : Value) w_90 rfl rfl rfl (by kernel_rfl) ?_
                    refine y_k (.int .i64 (IntKind.i64.wrap (i13_77 + 1)) : Value) w_90 rfl rfl rfl (by kernel_rfl) ?_
                    refine y_nil ?_
                    refine y_then (hN135 (IntKind.i64.wrap (i13_77 + 1)) _ _ h ?_)
                    dsimp only
                    refine upd_id ?_ rfl
                    refine upd_id ?_ rfl
                    refine upd_id ?_ rfl
                    refine upd_id ?_ rfl
                    refine upd_id ?_ rfl
                    rfl
              refine y_seq fun K148 hK148 => ?_
              refine y_region ?_
              refine y_k (.int .i64 ((if ((if t96_80 < 64 then t96_80 else 64)) > 0 then ((if t96_80 < 64 then t96_80 else 64)) else 0)) : Value) w_83 rfl rfl rfl (by kernel_rfl) ?_
              refine y_k (.bool (decide (((if ((if t96_80 < 64 then t96_80 else 64)) > 0 then ((if t96_80 < 64 then t96_80 else 64)) else 0)) < 64)) : Value) w_83 rfl rfl rfl (by kernel_rfl) ?_
              refine y_nil ?_
              refine y_then (hK148 _ _ ?_)
              refine y_cond (decide (((if ((if t96_80 < 64 then t96_80 else 64)) > 0 then ((if t96_80 < 64 then t96_80 else 64)) else 0)) < 64)) rfl rfl (fun hb159 => ?_) (fun hb159 => ?_)
              · replace h := h.1 (of_decide_eq_true hb159)
                refine q_region (by kernel_rfl) (by kernel_rfl) fun Qq149 hQq149 => ?_
                refine q_k (.slice v0_1.a v0_1.n v0_1.c : Value) rfl rfl rfl (fun _ => by kernel_rfl) ?_
                refine q_k (.int .i64 i13_77 : Value) rfl rfl rfl (fun _ => by kernel_rfl) ?_
                obtain ⟨hx150a, hx150b, a_86, hx150, h⟩ := h
                refine q_v (v := (.pointer (some (a_86.add (Int.toNat i13_77))) : Value)) (s := Instr.indexAt 80 (.slice v0_1.a v0_1.n v0_1.c : Value) (.int .i64 i13_77 : Value)) rfl rfl rfl (by kernel_rfl) (fun _ => run_ixs1 (el := 23) (by kernel_rfl) (by kernel_rfl) hx150 hx150a hx150b) ?_
                obtain ⟨t114_87, hx151, h⟩ := h
                refine q_v (v := (.int .u64 t114_87 : Value)) (s := Instr.loadAt 23 (.pointer (some (a_86.add (Int.toNat i13_77))))) rfl rfl rfl (by kernel_rfl) (fun _ => rn_load (by kernel_rfl) hx151) ?_
                refine q_k (.int .i64 ((if ((if t96_80 < 64 then t96_80 else 64)) > 0 then ((if t96_80 < 64 then t96_80 else 64)) else 0)) : Value) rfl rfl rfl (fun _ => by kernel_rfl) ?_
                obtain ⟨hx152, h⟩ := h
                refine q_k (.int .u64 (ishl .u64 1 ((if ((if t96_80 < 64 then t96_80 else 64)) > 0 then ((if t96_80 < 64 then t96_80 else 64)) else 0))) : Value) rfl rfl rfl (fun _ => run_shl hx152 rfl rfl) ?_
                refine q_k (.int .u64 (IntKind.u64.wrap ((ishl .u64 1 ((if ((if t96_80 < 64 then t96_80 else 64)) > 0 then ((if t96_80 < 64 then t96_80 else 64)) else 0))) - 1)) : Value) rfl rfl rfl (fun _ => by kernel_rfl) ?_
                refine q_k (.int .u64 (ibits .and .u64 t114_87 (IntKind.u64.wrap ((ishl .u64 1 ((if ((if t96_80 < 64 then t96_80 else 64)) > 0 then ((if t96_80 < 64 then t96_80 else 64)) else 0))) - 1))) : Value) rfl rfl rfl (fun _ => by kernel_rfl) ?_
                refine q_k (.int .u64 (ibits .and .u64 t114_87 (IntKind.u64.wrap ((ishl .u64 1 ((if ((if t96_80 < 64 then t96_80 else 64)) > 0 then ((if t96_80 < 64 then t96_80 else 64)) else 0))) - 1))) : Value) rfl rfl rfl (fun _ => by kernel_rfl) ?_
                refine q_nil (hQq149 _ fun m158 => ?_)
                replace h := h _ ⟨m158, rfl⟩
                generalize w_83.drewN m158 = w_88 at h ⊢
                exact y_then (hjK147 _ (ibits .and .u64 t114_87 (IntKind.u64.wrap ((ishl .u64 1 ((if ((if t96_80 < 64 then t96_80 else 64)) > 0 then ((if t96_80 < 64 then t96_80 else 64)) else 0))) - 1))) w_88 rfl rfl rfl rfl rfl rfl rfl rfl h)
              · replace h := h.2 (of_decide_eq_false hb159)
                refine y_skip ?_
                exact y_then (hjK147 _ t108_85 w_83 rfl rfl rfl rfl rfl rfl rfl rfl h)
            · replace h := h.2 (of_decide_eq_false hb166)
              refine y_exit ?_
              repeat (first | refine e_then_x ?_ | refine e_block_y rfl ?_)
              refine e_block_x ?_
              refine y_then (hK131 _ _ ?_)
              refine y_seq fun K160 hK160 => ?_
              refine y_region ?_
              refine y_k (.pointer t77_75 : Value) w_78 rfl rfl rfl (by kernel_rfl) ?_
              refine y_call rfl rfl rfl (by kernel_rfl) (h.mono ?_)
              rintro _ w_92 ⟨t127_91, rfl, h⟩
              refine ⟨_, rfl, ?_⟩
              refine y_k (.int .i64 t127_91 : Value) w_92 rfl rfl rfl (by kernel_rfl) ?_
              refine y_nil ?_
              refine y_then (hK160 _ _ ?_)
              refine y_seq fun K161 hK161 => ?_
              refine y_region ?_
              refine y_k (.pointer t77_75 : Value) w_92 rfl rfl rfl (by kernel_rfl) ?_
              refine y_k (.int .i64 t127_91 : Value) w_92 rfl rfl rfl (by kernel_rfl) ?_
              refine y_call rfl rfl rfl (by kernel_rfl) (h.mono ?_)
              rintro _ w_95 ⟨t131_93, t131_94, rfl, h⟩
              refine ⟨_, rfl, ?_⟩
              refine y_k (.tuple #[.int .u64 t131_93, .bool t131_94] : Value) w_95 rfl rfl rfl (by kernel_rfl) ?_
              refine y_k (.int .u64 t131_93 : Value) w_95 rfl rfl rfl (by kernel_rfl) ?_
              refine y_k (.bool t131_94 : Value) w_95 rfl rfl rfl (by kernel_rfl) ?_
              refine y_k (.int .u64 t131_93 : Value) w_95 rfl rfl rfl (by kernel_rfl) ?_
              refine y_k (.bool t131_94 : Value) w_95 rfl rfl rfl (by kernel_rfl) ?_
              refine y_nil ?_
              refine y_then (hK161 _ _ ?_)
              refine y_seq fun K162 hK162 => ?_
              have hjK162 : ∀ (f : Fr) (t6_96 : Bool) (w_97 : World), f 6 = (.bool t6_96 : Value) → F9_j10 K t6_96 w_97 → WK K162 147 f w_97 := by
                intro f t6_96 w_97 e6 h
                refine y_atf (upd_id rfl e6) ?_
                clear e6
                unfold F9_j10 at h
                refine hK162 _ _ ?_
                refine y_ret ?_
                repeat (first | refine e_then_r ?_ | refine e_block_r ?_)
                exact (hQ0 _ _ _ (res1 (v := (.bool t6_96 : Value)) rfl rfl rfl) ⟨_, rfl, h⟩).1
              refine y_region ?_
              refine y_k (.int .i64 t127_91 : Value) w_95 rfl rfl rfl (by kernel_rfl) ?_
              refine y_k (.bool (decide (t127_91 ≥ 0)) : Value) w_95 rfl rfl rfl (by kernel_rfl) ?_
              refine y_k (.bool (decide (t127_91 ≥ 0)) : Value) w_95 rfl rfl rfl (by kernel_rfl) ?_
              refine y_fork (decide (t127_91 ≥ 0)) (fun hb163 => ?_) (fun hb163 => ?_)
              · replace h := h.1 (of_decide_eq_true hb163)
                refine y_frame (upd_id (i := 136) (v := .bool true) rfl (congrArg Value.bool hb163)) ?_
                refine y_gyes rfl rfl rfl ?_
                refine y_k (.int .i64 t127_91 : Value) w_95 rfl rfl rfl (by kernel_rfl) ?_
                refine y_gyes rfl rfl rfl ?_
                refine y_k (.bool (decide (t127_91 < 8)) : Value) w_95 rfl rfl rfl (by kernel_rfl) ?_
                refine y_k (.bool (decide (t127_91 < 8)) : Value) w_95 rfl rfl rfl (by kernel_rfl) ?_
                refine y_k (.bool (decide (t127_91 < 8)) : Value) w_95 rfl rfl rfl (by kernel_rfl) ?_
                refine y_fork (decide (t127_91 < 8)) (fun hb164 => ?_) (fun hb164 => ?_)
                · replace h := h.1 (of_decide_eq_true hb164)
                  refine y_frame (upd_id (i := 140) (v := .bool true) rfl (congrArg Value.bool hb164)) ?_
                  refine y_gyes rfl rfl rfl ?_
                  refine y_k (.bool t131_94 : Value) w_95 rfl rfl rfl (by kernel_rfl) ?_
                  refine y_k (.bool t131_94 : Value) w_95 rfl rfl rfl (by kernel_rfl) ?_
                  refine y_k (.bool t131_94 : Value) w_95 rfl rfl rfl (by kernel_rfl) ?_
                  refine y_fork (t131_94) (fun hb165 => ?_) (fun hb165 => ?_)
                  · replace h := h.1 (hb165)
                    refine y_frame (upd_id (i := 143) (v := .bool true) rfl (congrArg Value.bool hb165)) ?_
                    refine y_gyes rfl rfl rfl ?_
                    refine y_k (.int .u64 t131_93 : Value) w_95 rfl rfl rfl (by kernel_rfl) ?_
                    refine y_gyes rfl rfl rfl ?_
                    refine y_k (.bool ((t131_93 == 0)) : Value) w_95 rfl rfl rfl (by kernel_rfl) ?_
                    refine y_k (.bool ((t131_93 == 0)) : Value) w_95 rfl rfl rfl (by kernel_rfl) ?_
                    refine y_k (.bool ((t131_93 == 0)) : Value) w_95 rfl rfl rfl (by kernel_rfl) ?_
                    refine y_nil ?_
                    exact y_then (hjK162 _ ((t131_93 == 0)) w_95 rfl h)
                  · replace h := h.2 (hb165)
                    refine y_frame (upd_id (i := 143) (v := .bool false) rfl (congrArg Value.bool hb165)) ?_
                    refine y_gno rfl rfl rfl rfl ?_
                    refine y_gno rfl rfl rfl rfl ?_
                    refine y_k (.bool false : Value) w_95 rfl rfl rfl (by kernel_rfl) ?_
                    refine y_k (.bool false : Value) w_95 rfl rfl rfl (by kernel_rfl) ?_
                    refine y_nil ?_
                    exact y_then (hjK162 _ false w_95 rfl h)
                · replace h := h.2 (of_decide_eq_false hb164)
                  refine y_frame (upd_id (i := 140) (v := .bool false) rfl (congrArg Value.bool hb164)) ?_
                  refine y_gno rfl rfl rfl rfl ?_
                  refine y_k (.bool false : Value) w_95 rfl rfl rfl (by kernel_rfl) ?_
                  refine y_k (.bool false : Value) w_95 rfl rfl rfl (by kernel_rfl) ?_
                  refine y_gno rfl rfl rfl rfl ?_
                  refine y_gno rfl rfl rfl rfl ?_
                  refine y_k (.bool false : Value) w_95 rfl rfl rfl (by kernel_rfl) ?_
                  refine y_k (.bool false : Value) w_95 rfl rfl rfl (by kernel_rfl) ?_
                  refine y_nil ?_
                  exact y_then (hjK162 _ false w_95 rfl h)
              · replace h := h.2 (of_decide_eq_false hb163)
                refine y_frame (upd_id (i := 136) (v := .bool false) rfl (congrArg Value.bool hb163)) ?_
                refine y_gno rfl rfl rfl rfl ?_
                refine y_gno rfl rfl rfl rfl ?_
                refine y_k (.bool false : Value) w_95 rfl rfl rfl (by kernel_rfl) ?_
                refine y_k (.bool false : Value) w_95 rfl rfl rfl (by kernel_rfl) ?_
                refine y_gno rfl rfl rfl rfl ?_
                refine y_k (.bool false : Value) w_95 rfl rfl rfl (by kernel_rfl) ?_
                refine y_k (.bool false : Value) w_95 rfl rfl rfl (by kernel_rfl) ?_
                refine y_gno rfl rfl rfl rfl ?_
                refine y_gno rfl rfl rfl rfl ?_
                refine y_k (.bool false : Value) w_95 rfl rfl rfl (by kernel_rfl) ?_
                refine y_k (.bool false : Value) w_95 rfl rfl rfl (by kernel_rfl) ?_
                refine y_nil ?_
                exact y_then (hjK162 _ false w_95 rfl h)

end Go.Proofs.Ythhcaaellhdkiaa
