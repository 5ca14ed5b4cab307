/- Printed by gen.py (own program, wip/): for each Go function a predicate transformer and its soundness. -/
import Derived.Test.YthhcaaellhdkiaaProg
import Derived.Test.YthhcaaellhdkiaaST
namespace Go.Proofs.Ythhcaaellhdkiaa
open Go Go.RowKit Go.Proofs.Ythhcaaellhdkiaa.SX
set_option linter.unusedVariables false

def F3_j6 (K : Bool → World → Prop) (t8_85 : Bool) (w_86 : World) : Prop :=
  K t8_85 w_86
def F3_l5 (b0_1 : Sl) (s3_4 : Sl) (K : Bool → World → Prop) (t25_5 : Bool) (t42_8 : Sl) (t44_10 : Sl) (t118_55 : Bool) (t121_57 : Bool) (t124_59 : Bool) (next93 : (Int) → World → Prop) : (Int) → World → Prop := fun (i23_67) w_68 =>
  ((i23_67 < ((t44_10.n : Int)) →
  (0 : Int) ≤ i23_67 ∧ i23_67 < (t44_10.n : Int) ∧ ∃ (a_69 : Addr), t44_10.a = some a_69 ∧
  ∃ (t150_70 : Int), w_68.cell? (a_69.add (Int.toNat i23_67)) = some (.int .u8 t150_70) ∧
  (0 : Int) ≤ i23_67 ∧ i23_67 < (t44_10.n : Int) ∧ ∃ (a_71 : Addr), t44_10.a = some a_71 ∧
  HasCell w_68 (a_71.add (Int.toNat i23_67)) ∧ ∀ (w_72 : World), w_72 = w_68.setCell (a_71.add (Int.toNat i23_67)) (.int .u8 (IntKind.u8.wrap (t150_70 + 3)) : Value) →
  next93 (IntKind.i64.wrap (i23_67 + 1)) w_72) ∧
  (¬ (i23_67 < ((t44_10.n : Int))) →
  ∀ (w_73 : World), w_73 = w_68.drew →
  ∃ (t156_74 : Sl), (Instr.sliceAt 22 (.slice t42_8.a t42_8.n t42_8.c : Value) none (some (.int .i64 ((b0_1.n : Int)) : Value)) none).run Try.prog w_73 = .ok (.slice t156_74.a t156_74.n t156_74.c : Value) w_73 ∧
  ∃ (t160_75 : Sl), (Instr.sliceAt 22 (.slice t44_10.a t44_10.n t44_10.c : Value) none (some (.int .i64 ((s3_4.n : Int)) : Value)) none).run Try.prog w_73 = .ok (.slice t160_75.a t160_75.n t160_75.c : Value) w_73 ∧
  Calls Try.prog 19 #[.slice t156_74.a t156_74.n t156_74.c, .slice t160_75.a t160_75.n t160_75.c] w_73 fun e w_77 => ∃ (t161_76 : Sl), e = .returned (.slice t161_76.a t161_76.n t161_76.c : Value) ∧ 
  ∀ (w_78 : World), w_78 = w_77.drew →
  ((t25_5 = true →
  ((t118_55 = true →
  ((t121_57 = true →
  ((t124_59 = true →
  ∃ (t174_79 : ByteArray), (convert 22 9 (.slice t161_76.a t161_76.n t161_76.c : Value)).run Try.prog w_78 = .ok (.string t174_79 : Value) w_78 ∧
  ∃ (t178_80 : Sl), (Instr.sliceAt 22 (.slice t42_8.a t42_8.n t42_8.c : Value) none (some (.int .i64 ((b0_1.n : Int)) : Value)) none).run Try.prog w_78 = .ok (.slice t178_80.a t178_80.n t178_80.c : Value) w_78 ∧
  ∃ (t182_81 : Sl), (Instr.sliceAt 22 (.slice t44_10.a t44_10.n t44_10.c : Value) none (some (.int .i64 ((s3_4.n : Int)) : Value)) none).run Try.prog w_78 = .ok (.slice t182_81.a t182_81.n t182_81.c : Value) w_78 ∧
  Calls Try.prog 16 #[.slice t178_80.a t178_80.n t178_80.c, .slice t182_81.a t182_81.n t182_81.c] w_78 fun e w_83 => ∃ (t183_82 : Sl), e = .returned (.slice t183_82.a t183_82.n t183_82.c : Value) ∧ (convert 22 9 (.slice t161_76.a t161_76.n t161_76.c : Value)).run Try.prog w_83 = .ok (.string t174_79 : Value) w_83 ∧ 
  ∃ (t184_84 : ByteArray), (convert 22 9 (.slice t183_82.a t183_82.n t183_82.c : Value)).run Try.prog w_83 = .ok (.string t184_84 : Value) w_83 ∧
  F3_j6 K ((t174_79.toList == t184_84.toList)) w_83) ∧
  (t124_59 = false →
  F3_j6 K false w_78))) ∧
  (t121_57 = false →
  F3_j6 K false w_78))) ∧
  (t118_55 = false →
  F3_j6 K false w_78))) ∧
  (t25_5 = false →
  F3_j6 K false w_78))))
def F3_l4 (b0_1 : Sl) (s3_4 : Sl) (K : Bool → World → Prop) (t25_5 : Bool) (t42_8 : Sl) (t44_10 : Sl) (t118_55 : Bool) (t121_57 : Bool) (t124_59 : Bool) (next80 : (Int) → World → Prop) : (Int) → World → Prop := fun (i22_61) w_62 =>
  ((i22_61 < ((t42_8.n : Int)) →
  (0 : Int) ≤ i22_61 ∧ i22_61 < (t42_8.n : Int) ∧ ∃ (a_63 : Addr), t42_8.a = some a_63 ∧
  ∃ (t136_64 : Int), w_62.cell? (a_63.add (Int.toNat i22_61)) = some (.int .u8 t136_64) ∧
  (0 : Int) ≤ i22_61 ∧ i22_61 < (t42_8.n : Int) ∧ ∃ (a_65 : Addr), t42_8.a = some a_65 ∧
  HasCell w_62 (a_65.add (Int.toNat i22_61)) ∧ ∀ (w_66 : World), w_66 = w_62.setCell (a_65.add (Int.toNat i22_61)) (.int .u8 (IntKind.u8.wrap (t136_64 + 1)) : Value) →
  next80 (IntKind.i64.wrap (i22_61 + 1)) w_66) ∧
  (¬ (i22_61 < ((t42_8.n : Int))) →
  kLoop (F3_l5 b0_1 s3_4 K t25_5 t42_8 t44_10 t118_55 t121_57 t124_59) (0) w_62))
def F3_l3 (b0_1 : Sl) (s3_4 : Sl) (K : Bool → World → Prop) (t25_5 : Bool) (w_6 : World) (t42_8 : Sl) (t44_10 : Sl) (want14_24 : Addr) (all13_26 : Sl) (next57 : (Int) → World → Prop) : (Int) → World → Prop := fun (i18_47) w_48 =>
  ((i18_47 < ((all13_26.n : Int)) →
  (0 : Int) ≤ i18_47 ∧ i18_47 < (all13_26.n : Int) ∧ ∃ (a_49 : Addr), all13_26.a = some a_49 ∧
  ∃ (t107_50 : Sl), w_48.cell? (a_49.add (Int.toNat i18_47)) = some (.slice t107_50.a t107_50.n t107_50.c) ∧
  ∃ (t108_51 : ByteArray), (∀ m, (convert 22 9 (.slice t107_50.a t107_50.n t107_50.c : Value)).run Try.prog (w_48.drewN m) = .ok (.string t108_51 : Value) (w_48.drewN m)) ∧
  (0 : Int) ≤ (Int.tmod i18_47 3) ∧ (Int.tmod i18_47 3) < 3 ∧
  ∃ (t112_52 : ByteArray), w_48.cell? (want14_24.add (Int.toNat (Int.tmod i18_47 3))) = some (.string t112_52) ∧
  ∀ (w_53 : World), (∃ m, w_53 = w_48.drewN m) →
  ((¬ t108_51.toList = t112_52.toList →
  K false w_53) ∧
  (t108_51.toList = t112_52.toList →
  next57 (IntKind.i64.wrap (i18_47 + 1)) w_53))) ∧
  (¬ (i18_47 < ((all13_26.n : Int))) →
  Calls Try.prog 21 #[.pointer (some (⟨w_6.heap.size, 0, none⟩ : Addr)), .slice all13_26.a all13_26.n all13_26.c] w_48 fun e w_54 => e = .returned (.tuple #[] : Value) ∧
  Calls Try.prog 22 #[.pointer (some (⟨w_6.heap.size, 0, none⟩ : Addr))] w_54 fun e w_56 => ∃ (t118_55 : Bool), e = .returned (.bool t118_55 : Value) ∧
  Calls Try.prog 20 #[.slice t42_8.a t42_8.n t42_8.c, .slice b0_1.a b0_1.n b0_1.c] w_56 fun e w_58 => ∃ (t121_57 : Bool), e = .returned (.bool t121_57 : Value) ∧
  Calls Try.prog 20 #[.slice t44_10.a t44_10.n t44_10.c, .slice s3_4.a s3_4.n s3_4.c] w_58 fun e w_60 => ∃ (t124_59 : Bool), e = .returned (.bool t124_59 : Value) ∧
  kLoop (F3_l4 b0_1 s3_4 K t25_5 t42_8 t44_10 t118_55 t121_57 t124_59) (0) w_60))
def F3_l2 (b0_1 : Sl) (n1_2 : Int) (m2_3 : Int) (s3_4 : Sl) (K : Bool → World → Prop) (t25_5 : Bool) (w_6 : World) (t42_8 : Sl) (t44_10 : Sl) (want14_24 : Addr) (next29 : (Sl × Int) → World → Prop) : (Sl × Int) → World → Prop := fun (all13_26, turn15_27) w_28 =>
  ((turn15_27 < 3 →
  ∀ (w_29 : World), w_29 = w_28.drew →
  ∃ (t66_30 : Sl), (Instr.sliceAt 22 (.slice t42_8.a t42_8.n t42_8.c : Value) none (some (.int .i64 ((b0_1.n : Int)) : Value)) none).run Try.prog w_29 = .ok (.slice t66_30.a t66_30.n t66_30.c : Value) w_29 ∧
  ∃ (t72_31 : Sl), (Instr.sliceAt 22 (.slice t42_8.a t42_8.n t42_8.c : Value) none (some (.int .i64 ((b0_1.n : Int)) : Value)) none).run Try.prog w_29 = .ok (.slice t72_31.a t72_31.n t72_31.c : Value) w_29 ∧
  ∃ (t78_32 : Sl), (Instr.sliceAt 22 (.slice t42_8.a t42_8.n t42_8.c : Value) none (some (.int .i64 ((b0_1.n : Int)) : Value)) none).run Try.prog w_29 = .ok (.slice t78_32.a t78_32.n t78_32.c : Value) w_29 ∧
  ∃ (t82_33 : Sl), (Instr.sliceAt 22 (.slice t44_10.a t44_10.n t44_10.c : Value) none (some (.int .i64 ((s3_4.n : Int)) : Value)) none).run Try.prog w_29 = .ok (.slice t82_33.a t82_33.n t82_33.c : Value) w_29 ∧
  Calls Try.prog 17 #[.slice t66_30.a t66_30.n t66_30.c, .int .u64 n1_2] w_29 fun e w_35 => ∃ (t68_34 : Sl), e = .returned (.slice t68_34.a t68_34.n t68_34.c : Value) ∧ (Instr.sliceAt 22 (.slice t44_10.a t44_10.n t44_10.c : Value) none (some (.int .i64 ((s3_4.n : Int)) : Value)) none).run Try.prog w_35 = .ok (.slice t82_33.a t82_33.n t82_33.c : Value) w_35 ∧ (Instr.sliceAt 22 (.slice t42_8.a t42_8.n t42_8.c : Value) none (some (.int .i64 ((b0_1.n : Int)) : Value)) none).run Try.prog w_35 = .ok (.slice t78_32.a t78_32.n t78_32.c : Value) w_35 ∧ (Instr.sliceAt 22 (.slice t42_8.a t42_8.n t42_8.c : Value) none (some (.int .i64 ((b0_1.n : Int)) : Value)) none).run Try.prog w_35 = .ok (.slice t72_31.a t72_31.n t72_31.c : Value) w_35 ∧ 
  Calls Try.prog 18 #[.slice t72_31.a t72_31.n t72_31.c, .int .i64 m2_3] w_35 fun e w_37 => ∃ (t74_36 : Sl), e = .returned (.slice t74_36.a t74_36.n t74_36.c : Value) ∧ (Instr.sliceAt 22 (.slice t44_10.a t44_10.n t44_10.c : Value) none (some (.int .i64 ((s3_4.n : Int)) : Value)) none).run Try.prog w_37 = .ok (.slice t82_33.a t82_33.n t82_33.c : Value) w_37 ∧ (Instr.sliceAt 22 (.slice t42_8.a t42_8.n t42_8.c : Value) none (some (.int .i64 ((b0_1.n : Int)) : Value)) none).run Try.prog w_37 = .ok (.slice t78_32.a t78_32.n t78_32.c : Value) w_37 ∧ 
  Calls Try.prog 19 #[.slice t78_32.a t78_32.n t78_32.c, .slice t82_33.a t82_33.n t82_33.c] w_37 fun e w_39 => ∃ (t83_38 : Sl), e = .returned (.slice t83_38.a t83_38.n t83_38.c : Value) ∧ 
  ∀ (w_40 : World), w_40 = w_39.alloc (.cells #[.slice t68_34.a t68_34.n t68_34.c, .slice t74_36.a t74_36.n t74_36.c, .slice t83_38.a t83_38.n t83_38.c] 22) → 
  ∃ (t85_41 : Sl), ∃ (w_42 : World), (Builtin.append_ #[26, 26] 26 #[.slice all13_26.a all13_26.n all13_26.c, .slice (some ⟨w_39.heap.size, 0, none⟩) 3 3]).run Try.prog w_40 = .ok (.slice t85_41.a t85_41.n t85_41.c : Value) w_42 ∧ 
  Calls Try.prog 20 #[.slice t42_8.a t42_8.n t42_8.c, .slice b0_1.a b0_1.n b0_1.c] w_42 fun e w_44 => ∃ (t88_43 : Bool), e = .returned (.bool t88_43 : Value) ∧
  Calls Try.prog 20 #[.slice t44_10.a t44_10.n t44_10.c, .slice s3_4.a s3_4.n s3_4.c] w_44 fun e w_46 => ∃ (t91_45 : Bool), e = .returned (.bool t91_45 : Value) ∧
  ((t88_43 = false →
  K false w_46) ∧
  (t88_43 = true →
  ((t91_45 = false →
  K false w_46) ∧
  (t91_45 = true →
  next29 (t85_41, IntKind.i64.wrap (turn15_27 + 1)) w_46))))) ∧
  (¬ (turn15_27 < 3) →
  kLoop (F3_l3 b0_1 s3_4 K t25_5 w_6 t42_8 t44_10 want14_24 all13_26) (0) w_28))
def F3_j1 (b0_1 : Sl) (n1_2 : Int) (m2_3 : Int) (s3_4 : Sl) (K : Bool → World → Prop) (t25_5 : Bool) (w_6 : World) (t42_8 : Sl) (t44_10 : Sl) (want14_24 : Addr) (w_25 : World) : Prop :=
  kLoop (F3_l2 b0_1 n1_2 m2_3 s3_4 K t25_5 w_6 t42_8 t44_10 want14_24) (⟨none, 0, 0⟩, 0) w_25
/-- turnkey/turnkeylaw01.NumPuts -/
def F3 (b0_1 : Sl) (n1_2 : Int) (m2_3 : Int) (s3_4 : Sl) (K : Bool → World → Prop) (w : World) : Prop :=
  Calls Try.prog 12 #[] w fun e w_6 => ∃ (t25_5 : Bool), e = .returned (.bool t25_5 : Value) ∧
  ((t25_5 = false →
  K t25_5 w_6) ∧
  (t25_5 = true →
  ((((b0_1.n : Int)) > 536870912 →
  K t25_5 w_6) ∧
  (¬ (((b0_1.n : Int)) > 536870912) →
  ((((s3_4.n : Int)) > 536870912 →
  K t25_5 w_6) ∧
  (¬ (((s3_4.n : Int)) > 536870912) →
  ∀ (w_7 : World), w_7 = w_6.alloc (.cells #[.slice none 0 0, .slice none 0 0] 28) →
  Calls Try.prog 13 #[.slice b0_1.a b0_1.n b0_1.c] w_7 fun e w_9 => ∃ (t42_8 : Sl), e = .returned (.slice t42_8.a t42_8.n t42_8.c : Value) ∧
  Calls Try.prog 13 #[.slice s3_4.a s3_4.n s3_4.c] w_9 fun e w_11 => ∃ (t44_10 : Sl), e = .returned (.slice t44_10.a t44_10.n t44_10.c : Value) ∧
  ∀ (w_12 : World), w_12 = w_11.drew →
  ((Calls Try.prog 14 #[.slice b0_1.a b0_1.n b0_1.c, .int .u64 n1_2] w_12 fun e w_14 => ∃ (t47_13 : Sl), e = .returned (.slice t47_13.a t47_13.n t47_13.c : Value) ∧ 
  ∃ (t48_15 : ByteArray), (convert 22 9 (.slice t47_13.a t47_13.n t47_13.c : Value)).run Try.prog w_14 = .ok (.string t48_15 : Value) w_14 ∧
  ((Calls Try.prog 15 #[.slice b0_1.a b0_1.n b0_1.c, .int .i64 m2_3] w_14 fun e w_17 => ∃ (t51_16 : Sl), e = .returned (.slice t51_16.a t51_16.n t51_16.c : Value) ∧ (convert 22 9 (.slice t47_13.a t47_13.n t47_13.c : Value)).run Try.prog w_17 = .ok (.string t48_15 : Value) w_17 ∧ 
  ∃ (t52_18 : ByteArray), (convert 22 9 (.slice t51_16.a t51_16.n t51_16.c : Value)).run Try.prog w_17 = .ok (.string t52_18 : Value) w_17 ∧
  ((Calls Try.prog 16 #[.slice b0_1.a b0_1.n b0_1.c, .slice s3_4.a s3_4.n s3_4.c] w_17 fun e w_20 => ∃ (t55_19 : Sl), e = .returned (.slice t55_19.a t55_19.n t55_19.c : Value) ∧ (convert 22 9 (.slice t51_16.a t51_16.n t51_16.c : Value)).run Try.prog w_20 = .ok (.string t52_18 : Value) w_20 ∧ (convert 22 9 (.slice t47_13.a t47_13.n t47_13.c : Value)).run Try.prog w_20 = .ok (.string t48_15 : Value) w_20 ∧ 
  ∃ (t56_21 : ByteArray), (convert 22 9 (.slice t55_19.a t55_19.n t55_19.c : Value)).run Try.prog w_20 = .ok (.string t56_21 : Value) w_20 ∧
  ∀ (w_22 : World), w_22 = w_20.alloc (.cells #[.string ByteArray.empty, .string ByteArray.empty, .string ByteArray.empty] 33) → (convert 22 9 (.slice t55_19.a t55_19.n t55_19.c : Value)).run Try.prog w_22 = .ok (.string t56_21 : Value) w_22 ∧ (convert 22 9 (.slice t51_16.a t51_16.n t51_16.c : Value)).run Try.prog w_22 = .ok (.string t52_18 : Value) w_22 ∧ (convert 22 9 (.slice t47_13.a t47_13.n t47_13.c : Value)).run Try.prog w_22 = .ok (.string t48_15 : Value) w_22 ∧ 
  HasCells w_22 (⟨w_20.heap.size, 0, none⟩ : Addr) 0 3 ∧ ∀ (w_23 : World), w_23 = setCells w_22 (⟨w_20.heap.size, 0, none⟩ : Addr) 0 [.string t48_15, .string t52_18, .string t56_21] → 
  F3_j1 b0_1 n1_2 m2_3 s3_4 K t25_5 w_6 t42_8 t44_10 (⟨w_20.heap.size, 0, none⟩ : Addr) w_23) ∧
  (∀ (w_87 : World), w_87 = w_17.alloc (.cells #[.string ByteArray.empty, .string ByteArray.empty, .string ByteArray.empty] 33) → (convert 22 9 (.slice t51_16.a t51_16.n t51_16.c : Value)).run Try.prog w_87 = .ok (.string t52_18 : Value) w_87 ∧ (convert 22 9 (.slice t47_13.a t47_13.n t47_13.c : Value)).run Try.prog w_87 = .ok (.string t48_15 : Value) w_87 ∧ 
  Calls Try.prog 16 #[.slice b0_1.a b0_1.n b0_1.c, .slice s3_4.a s3_4.n s3_4.c] w_87 fun e w_89 => ∃ (t55_88 : Sl), e = .returned (.slice t55_88.a t55_88.n t55_88.c : Value) ∧ (convert 22 9 (.slice t51_16.a t51_16.n t51_16.c : Value)).run Try.prog w_89 = .ok (.string t52_18 : Value) w_89 ∧ (convert 22 9 (.slice t47_13.a t47_13.n t47_13.c : Value)).run Try.prog w_89 = .ok (.string t48_15 : Value) w_89 ∧ 
  ∃ (t56_90 : ByteArray), (convert 22 9 (.slice t55_88.a t55_88.n t55_88.c : Value)).run Try.prog w_89 = .ok (.string t56_90 : Value) w_89 ∧
  HasCells w_89 (⟨w_17.heap.size, 0, none⟩ : Addr) 0 3 ∧ ∀ (w_91 : World), w_91 = setCells w_89 (⟨w_17.heap.size, 0, none⟩ : Addr) 0 [.string t48_15, .string t52_18, .string t56_90] → 
  F3_j1 b0_1 n1_2 m2_3 s3_4 K t25_5 w_6 t42_8 t44_10 (⟨w_17.heap.size, 0, none⟩ : Addr) w_91))) ∧
  (∀ (w_92 : World), w_92 = w_14.alloc (.cells #[.string ByteArray.empty, .string ByteArray.empty, .string ByteArray.empty] 33) → (convert 22 9 (.slice t47_13.a t47_13.n t47_13.c : Value)).run Try.prog w_92 = .ok (.string t48_15 : Value) w_92 ∧ 
  Calls Try.prog 15 #[.slice b0_1.a b0_1.n b0_1.c, .int .i64 m2_3] w_92 fun e w_94 => ∃ (t51_93 : Sl), e = .returned (.slice t51_93.a t51_93.n t51_93.c : Value) ∧ (convert 22 9 (.slice t47_13.a t47_13.n t47_13.c : Value)).run Try.prog w_94 = .ok (.string t48_15 : Value) w_94 ∧ 
  ∃ (t52_95 : ByteArray), (convert 22 9 (.slice t51_93.a t51_93.n t51_93.c : Value)).run Try.prog w_94 = .ok (.string t52_95 : Value) w_94 ∧
  Calls Try.prog 16 #[.slice b0_1.a b0_1.n b0_1.c, .slice s3_4.a s3_4.n s3_4.c] w_94 fun e w_97 => ∃ (t55_96 : Sl), e = .returned (.slice t55_96.a t55_96.n t55_96.c : Value) ∧ (convert 22 9 (.slice t51_93.a t51_93.n t51_93.c : Value)).run Try.prog w_97 = .ok (.string t52_95 : Value) w_97 ∧ (convert 22 9 (.slice t47_13.a t47_13.n t47_13.c : Value)).run Try.prog w_97 = .ok (.string t48_15 : Value) w_97 ∧ 
  ∃ (t56_98 : ByteArray), (convert 22 9 (.slice t55_96.a t55_96.n t55_96.c : Value)).run Try.prog w_97 = .ok (.string t56_98 : Value) w_97 ∧
  HasCells w_97 (⟨w_14.heap.size, 0, none⟩ : Addr) 0 3 ∧ ∀ (w_99 : World), w_99 = setCells w_97 (⟨w_14.heap.size, 0, none⟩ : Addr) 0 [.string t48_15, .string t52_95, .string t56_98] → 
  F3_j1 b0_1 n1_2 m2_3 s3_4 K t25_5 w_6 t42_8 t44_10 (⟨w_14.heap.size, 0, none⟩ : Addr) w_99))) ∧
  (∀ (w_100 : World), w_100 = w_12.alloc (.cells #[.string ByteArray.empty, .string ByteArray.empty, .string ByteArray.empty] 33) → 
  Calls Try.prog 14 #[.slice b0_1.a b0_1.n b0_1.c, .int .u64 n1_2] w_100 fun e w_102 => ∃ (t47_101 : Sl), e = .returned (.slice t47_101.a t47_101.n t47_101.c : Value) ∧ 
  ∃ (t48_103 : ByteArray), (convert 22 9 (.slice t47_101.a t47_101.n t47_101.c : Value)).run Try.prog w_102 = .ok (.string t48_103 : Value) w_102 ∧
  Calls Try.prog 15 #[.slice b0_1.a b0_1.n b0_1.c, .int .i64 m2_3] w_102 fun e w_105 => ∃ (t51_104 : Sl), e = .returned (.slice t51_104.a t51_104.n t51_104.c : Value) ∧ (convert 22 9 (.slice t47_101.a t47_101.n t47_101.c : Value)).run Try.prog w_105 = .ok (.string t48_103 : Value) w_105 ∧ 
  ∃ (t52_106 : ByteArray), (convert 22 9 (.slice t51_104.a t51_104.n t51_104.c : Value)).run Try.prog w_105 = .ok (.string t52_106 : Value) w_105 ∧
  Calls Try.prog 16 #[.slice b0_1.a b0_1.n b0_1.c, .slice s3_4.a s3_4.n s3_4.c] w_105 fun e w_108 => ∃ (t55_107 : Sl), e = .returned (.slice t55_107.a t55_107.n t55_107.c : Value) ∧ (convert 22 9 (.slice t51_104.a t51_104.n t51_104.c : Value)).run Try.prog w_108 = .ok (.string t52_106 : Value) w_108 ∧ (convert 22 9 (.slice t47_101.a t47_101.n t47_101.c : Value)).run Try.prog w_108 = .ok (.string t48_103 : Value) w_108 ∧ 
  ∃ (t56_109 : ByteArray), (convert 22 9 (.slice t55_107.a t55_107.n t55_107.c : Value)).run Try.prog w_108 = .ok (.string t56_109 : Value) w_108 ∧
  HasCells w_108 (⟨w_12.heap.size, 0, none⟩ : Addr) 0 3 ∧ ∀ (w_110 : World), w_110 = setCells w_108 (⟨w_12.heap.size, 0, none⟩ : Addr) 0 [.string t48_103, .string t52_106, .string t56_109] → 
  F3_j1 b0_1 n1_2 m2_3 s3_4 K t25_5 w_6 t42_8 t44_10 (⟨w_12.heap.size, 0, none⟩ : Addr) w_110))))))))
set_option maxHeartbeats 4000000 in
set_option maxRecDepth 20000 in
theorem F3_sound (b0_1 : Sl) (n1_2 : Int) (m2_3 : Int) (s3_4 : Sl) (K : Bool → World → Prop) (w : World) (h : F3 b0_1 n1_2 m2_3 s3_4 K w) :
    Calls Try.prog 3 #[.slice b0_1.a b0_1.n b0_1.c, .int .u64 n1_2, .int .i64 m2_3, .slice s3_4.a s3_4.n s3_4.c] w (fun e w1 => ∃ (r0 : Bool), e = .returned (.bool r0 : Value) ∧ K r0 w1) := by
  unfold F3 at h
  refine y_enter (n := 187) (args := [.slice b0_1.a b0_1.n b0_1.c, .int .u64 n1_2, .int .i64 m2_3, .slice s3_4.a s3_4.n s3_4.c]) Try.func3 rfl rfl rfl fun Q0 hQ0 => ?_
  refine y_seq fun K1 hK1 => ?_
  refine y_region ?_
  refine y_k (.bool false : Value) w rfl rfl rfl (by kernel_rfl) ?_
  refine y_nil ?_
  refine y_then (hK1 _ _ ?_)
  refine y_seq fun K2 hK2 => ?_
  refine y_region ?_
  refine y_call rfl rfl rfl (by kernel_rfl) (h.mono ?_)
  rintro _ w_6 ⟨t25_5, rfl, h⟩
  refine ⟨_, rfl, ?_⟩
  refine y_k (.bool t25_5 : Value) w_6 rfl rfl rfl (by kernel_rfl) ?_
  refine y_nil ?_
  refine y_then (hK2 _ _ ?_)
  refine y_seq fun K3 hK3 => ?_
  refine y_seq fun K4 hK4 => ?_
  refine y_region ?_
  refine y_k (.bool t25_5 : Value) w_6 rfl rfl rfl (by kernel_rfl) ?_
  refine y_k (.bool (!(t25_5)) : Value) w_6 rfl rfl rfl (by kernel_rfl) ?_
  refine y_k (.bool (!(t25_5)) : Value) w_6 rfl rfl rfl (by kernel_rfl) ?_
  refine y_fork (!(t25_5)) (fun hb5 => ?_) (fun hb5 => ?_)
  · replace h := h.1 ((not_true_of hb5))
    refine y_frame (upd_id (i := 28) (v := .bool true) rfl (congrArg Value.bool hb5)) ?_
    refine y_gno rfl rfl rfl rfl ?_
    refine y_gno rfl rfl rfl rfl ?_
    refine y_gno rfl rfl rfl rfl ?_
    refine y_k (.bool true : Value) w_6 rfl rfl rfl (by kernel_rfl) ?_
    refine y_k (.bool true : Value) w_6 rfl rfl rfl (by kernel_rfl) ?_
    refine y_gno rfl rfl rfl rfl ?_
    refine y_gno rfl rfl rfl rfl ?_
    refine y_gno rfl rfl rfl rfl ?_
    refine y_k (.bool true : Value) w_6 rfl rfl rfl (by kernel_rfl) ?_
    refine y_nil ?_
    refine y_then (hK4 _ _ ?_)
    refine y_cond_t rfl rfl ?_
    refine y_seq fun K6 hK6 => ?_
    refine y_region ?_
    refine y_k (.bool t25_5 : Value) w_6 rfl rfl rfl (by kernel_rfl) ?_
    refine y_k (.bool t25_5 : Value) w_6 rfl rfl rfl (by kernel_rfl) ?_
    refine y_nil ?_
    refine y_then (hK6 _ _ ?_)
    refine y_ret ?_
    repeat (first | refine e_then_r ?_ | refine e_block_r ?_)
    exact (hQ0 _ _ _ (res1 (v := (.bool t25_5 : Value)) rfl rfl rfl) ⟨_, rfl, h⟩).1
  · replace h := h.2 ((not_false_of hb5))
    refine y_frame (upd_id (i := 28) (v := .bool false) rfl (congrArg Value.bool hb5)) ?_
    refine y_gyes rfl rfl rfl ?_
    refine y_k (.slice b0_1.a b0_1.n b0_1.c : Value) w_6 rfl rfl rfl (by kernel_rfl) ?_
    refine y_gyes rfl rfl rfl ?_
    refine y_k (.int .i64 ((b0_1.n : Int)) : Value) w_6 rfl rfl rfl (by kernel_rfl) ?_
    refine y_gyes rfl rfl rfl ?_
    refine y_k (.bool (decide (((b0_1.n : Int)) > 536870912)) : Value) w_6 rfl rfl rfl (by kernel_rfl) ?_
    refine y_k (.bool (decide (((b0_1.n : Int)) > 536870912)) : Value) w_6 rfl rfl rfl (by kernel_rfl) ?_
    refine y_k (.bool (decide (((b0_1.n : Int)) > 536870912)) : Value) w_6 rfl rfl rfl (by kernel_rfl) ?_
    refine y_fork (decide (((b0_1.n : Int)) > 536870912)) (fun hb7 => ?_) (fun hb7 => ?_)
    · replace h := h.1 (of_decide_eq_true hb7)
      refine y_frame (upd_id (i := 33) (v := .bool true) rfl (congrArg Value.bool hb7)) ?_
      refine y_gno rfl rfl rfl rfl ?_
      refine y_gno rfl rfl rfl rfl ?_
      refine y_gno rfl rfl rfl rfl ?_
      refine y_k (.bool true : Value) w_6 rfl rfl rfl (by kernel_rfl) ?_
      refine y_nil ?_
      refine y_then (hK4 _ _ ?_)
      refine y_cond_t rfl rfl ?_
      refine y_seq fun K8 hK8 => ?_
      refine y_region ?_
      refine y_k (.bool t25_5 : Value) w_6 rfl rfl rfl (by kernel_rfl) ?_
      refine y_k (.bool t25_5 : Value) w_6 rfl rfl rfl (by kernel_rfl) ?_
      refine y_nil ?_
      refine y_then (hK8 _ _ ?_)
      refine y_ret ?_
      repeat (first | refine e_then_r ?_ | refine e_block_r ?_)
      exact (hQ0 _ _ _ (res1 (v := (.bool t25_5 : Value)) rfl rfl rfl) ⟨_, rfl, h⟩).1
    · replace h := h.2 (of_decide_eq_false hb7)
      refine y_frame (upd_id (i := 33) (v := .bool false) rfl (congrArg Value.bool hb7)) ?_
      refine y_gyes rfl rfl rfl ?_
      refine y_k (.slice s3_4.a s3_4.n s3_4.c : Value) w_6 rfl rfl rfl (by kernel_rfl) ?_
      refine y_gyes rfl rfl rfl ?_
      refine y_k (.int .i64 ((s3_4.n : Int)) : Value) w_6 rfl rfl rfl (by kernel_rfl) ?_
      refine y_gyes rfl rfl rfl ?_
      refine y_k (.bool (decide (((s3_4.n : Int)) > 536870912)) : Value) w_6 rfl rfl rfl (by kernel_rfl) ?_
      refine y_k (.bool (decide (((s3_4.n : Int)) > 536870912)) : Value) w_6 rfl rfl rfl (by kernel_rfl) ?_
      refine y_nil ?_
      refine y_then (hK4 _ _ ?_)
      refine y_cond (decide (((s3_4.n : Int)) > 536870912)) rfl rfl (fun hb142 => ?_) (fun hb142 => ?_)
      · replace h := h.1 (of_decide_eq_true hb142)
        refine y_seq fun K9 hK9 => ?_
        refine y_region ?_
        refine y_k (.bool t25_5 : Value) w_6 rfl rfl rfl (by kernel_rfl) ?_
        refine y_k (.bool t25_5 : Value) w_6 rfl rfl rfl (by kernel_rfl) ?_
        refine y_nil ?_
        refine y_then (hK9 _ _ ?_)
        refine y_ret ?_
        repeat (first | refine e_then_r ?_ | refine e_block_r ?_)
        exact (hQ0 _ _ _ (res1 (v := (.bool t25_5 : Value)) rfl rfl rfl) ⟨_, rfl, h⟩).1
      · replace h := h.2 (of_decide_eq_false hb142)
        refine y_skip ?_
        refine y_then (hK3 _ _ ?_)
        refine y_seq fun K10 hK10 => ?_
        refine y_region ?_
        refine y_k (.agg #[.slice none 0 0, .slice none 0 0] : Value) w_6 rfl rfl rfl (by kernel_rfl) ?_
        refine y_k (.pointer (some (⟨w_6.heap.size, 0, none⟩ : Addr)) : Value) (w_6.alloc (.cells #[.slice none 0 0, .slice none 0 0] 28)) rfl rfl rfl (by kernel_rfl) ?_
        replace h := h _ rfl
        generalize w_6.alloc (.cells #[.slice none 0 0, .slice none 0 0] 28) = w_7 at h ⊢
        refine y_k (.pointer (some (⟨w_6.heap.size, 0, none⟩ : Addr)) : Value) w_7 rfl rfl rfl (by kernel_rfl) ?_
        refine y_nil ?_
        refine y_then (hK10 _ _ ?_)
        refine y_seq fun K11 hK11 => ?_
        refine y_region ?_
        refine y_k (.slice b0_1.a b0_1.n b0_1.c : Value) w_7 rfl rfl rfl (by kernel_rfl) ?_
        refine y_call rfl rfl rfl (by kernel_rfl) (h.mono ?_)
        rintro _ w_9 ⟨t42_8, rfl, h⟩
        refine ⟨_, rfl, ?_⟩
        refine y_k (.slice t42_8.a t42_8.n t42_8.c : Value) w_9 rfl rfl rfl (by kernel_rfl) ?_
        refine y_nil ?_
        refine y_then (hK11 _ _ ?_)
        refine y_seq fun K12 hK12 => ?_
        refine y_region ?_
        refine y_k (.slice s3_4.a s3_4.n s3_4.c : Value) w_9 rfl rfl rfl (by kernel_rfl) ?_
        refine y_call rfl rfl rfl (by kernel_rfl) (h.mono ?_)
        rintro _ w_11 ⟨t44_10, rfl, h⟩
        refine ⟨_, rfl, ?_⟩
        refine y_k (.slice t44_10.a t44_10.n t44_10.c : Value) w_11 rfl rfl rfl (by kernel_rfl) ?_
        refine y_nil ?_
        refine y_then (hK12 _ _ ?_)
        refine y_seq fun K13 hK13 => ?_
        refine y_region ?_
        refine y_k (.slice none 0 0 : Value) w_11 rfl rfl rfl (by kernel_rfl) ?_
        refine y_nil ?_
        refine y_then (hK13 _ _ ?_)
        refine y_seq fun K14 hK14 => ?_
        have hjK14 : ∀ (f : Fr) (want14_24 : Addr) (w_25 : World), f 0 = (.slice b0_1.a b0_1.n b0_1.c : Value) → f 1 = (.int .u64 n1_2 : Value) → f 2 = (.int .i64 m2_3 : Value) → f 3 = (.slice s3_4.a s3_4.n s3_4.c : Value) → f 9 = (.bool t25_5 : Value) → f 10 = (.pointer (some (⟨w_6.heap.size, 0, none⟩ : Addr)) : Value) → f 11 = (.slice t42_8.a t42_8.n t42_8.c : Value) → f 12 = (.slice t44_10.a t44_10.n t44_10.c : Value) → f 13 = (.slice none 0 0 : Value) → f 14 = (.pointer (some want14_24) : Value) → F3_j1 b0_1 n1_2 m2_3 s3_4 K t25_5 w_6 t42_8 t44_10 want14_24 w_25 → WK K14 187 f w_25 := by
          intro f want14_24 w_25 e0 e1 e2 e3 e9 e10 e11 e12 e13 e14 h
          refine y_atf (upd_id (upd_id (upd_id (upd_id (upd_id (upd_id (upd_id (upd_id (upd_id (upd_id rfl e0) e1) e2) e3) e9) e10) e11) e12) e13) e14) ?_
          clear e0 e1 e2 e3 e9 e10 e11 e12 e13 e14
          unfold F3_j1 at h
          refine hK14 _ _ ?_
          refine y_seq fun K26 hK26 => ?_
          refine y_seq fun K27 hK27 => ?_
          refine y_region ?_
          refine y_k (.int .i64 0 : Value) w_25 rfl rfl rfl (by kernel_rfl) ?_
          refine y_nil ?_
          refine y_then (hK27 _ _ ?_)
          refine y_block ?_
          refine y_loop (S := Sl × Int) (fun s j => match s with | (all13_26, turn15_27) => upd (upd (upd (upd (upd (upd (upd (upd (upd (upd (upd (j) 0 (.slice b0_1.a b0_1.n b0_1.c : Value)) 1 (.int .u64 n1_2 : Value)) 2 (.int .i64 m2_3 : Value)) 3 (.slice s3_4.a s3_4.n s3_4.c : Value)) 9 (.bool t25_5 : Value)) 10 (.pointer (some (⟨w_6.heap.size, 0, none⟩ : Addr)) : Value)) 11 (.slice t42_8.a t42_8.n t42_8.c : Value)) 12 (.slice t44_10.a t44_10.n t44_10.c : Value)) 13 (.slice all13_26.a all13_26.n all13_26.c : Value)) 14 (.pointer (some want14_24) : Value)) 15 (.int .i64 turn15_27 : Value)) (⟨none, 0, 0⟩, 0) ?_ h ?_
          · dsimp only
            refine upd_id ?_ rfl
            refine upd_id ?_ rfl
            refine upd_id ?_ rfl
            refine upd_id ?_ rfl
            refine upd_id ?_ rfl
            refine upd_id ?_ rfl
            refine upd_id ?_ rfl
            refine upd_id ?_ rfl
            refine upd_id ?_ rfl
            refine upd_id ?_ rfl
            refine upd_id ?_ rfl
            rfl
          rintro KN30 next29 hN30 ⟨all13_26, turn15_27⟩ j w_28 h
          unfold F3_l2 at h
          refine y_seq fun K31 hK31 => ?_
          refine y_seq fun K32 hK32 => ?_
          refine y_region ?_
          refine y_k (.int .i64 turn15_27 : Value) w_28 rfl rfl rfl (by kernel_rfl) ?_
          refine y_k (.bool (decide (turn15_27 < 3)) : Value) w_28 rfl rfl rfl (by kernel_rfl) ?_
          refine y_nil ?_
          refine y_then (hK32 _ _ ?_)
          refine y_cond (decide (turn15_27 < 3)) rfl rfl (fun hb121 => ?_) (fun hb121 => ?_)
          · replace h := h.1 (of_decide_eq_true hb121)
            refine y_skip ?_
            refine y_then (hK31 _ _ ?_)
            refine y_seq fun K33 hK33 => ?_
            refine y_block ?_
            refine y_seq fun K35 hK35 => ?_
            obtain ⟨w_29, hwd36⟩ : ∃ wd : World, wd = w_28.drew := ⟨_, rfl⟩
            replace h := h _ hwd36
            refine t_region (wd := w_29) [] (by kernel_rfl) hwd36 SF_nil fun Q36 hE36 hp36 hS => ?_
            clear hwd36
            refine t_kw hp36 hS 0 (.slice all13_26.a all13_26.n all13_26.c : Value) rfl (wanted_none rfl) rfl rfl (by kernel_rfl) (fun _ _ => by kernel_rfl) fun hS => ?_
            refine t_kw hp36 hS 1 (.slice t42_8.a t42_8.n t42_8.c : Value) rfl (wanted_none rfl) rfl rfl (by kernel_rfl) (fun _ _ => by kernel_rfl) fun hS => ?_
            refine t_kw hp36 hS 2 (.slice b0_1.a b0_1.n b0_1.c : Value) rfl (wanted_none rfl) rfl rfl (by kernel_rfl) (fun _ _ => by kernel_rfl) fun hS => ?_
            refine t_kw hp36 hS 3 (.int .i64 ((b0_1.n : Int)) : Value) rfl (wanted_none rfl) rfl rfl (by kernel_rfl) (fun _ _ => by kernel_rfl) fun hS => ?_
            obtain ⟨t66_30, hx37, h⟩ := h
            refine t_add ⟨4, [6, 12, 21, 22, 23], fun wx => (Instr.sliceAt 22 (.slice t42_8.a t42_8.n t42_8.c : Value) none (some (.int .i64 ((b0_1.n : Int)) : Value)) none).run Try.prog wx = .ok (.slice t66_30.a t66_30.n t66_30.c : Value) wx⟩ ?_
            replace hS := SF_on (x := ⟨4, [6, 12, 21, 22, 23], fun wx => (Instr.sliceAt 22 (.slice t42_8.a t42_8.n t42_8.c : Value) none (some (.int .i64 ((b0_1.n : Int)) : Value)) none).run Try.prog wx = .ok (.slice t66_30.a t66_30.n t66_30.c : Value) wx⟩) hx37 hS
            refine t_v (s := Instr.sliceAt 22 (.slice t42_8.a t42_8.n t42_8.c : Value) none (some (.int .i64 ((b0_1.n : Int)) : Value)) none) hp36 hS 4 (.slice t66_30.a t66_30.n t66_30.c : Value) rfl (wanted_none rfl) rfl rfl (by kernel_rfl) (by kernel_rfl) (fun _ hw => (Sw.fact (List.Mem.head _) rfl hw)) fun hS => ?_
            refine t_kw hp36 hS 5 (.int .u64 n1_2 : Value) rfl (wanted_none rfl) rfl rfl (by kernel_rfl) (fun _ _ => by kernel_rfl) fun hS => ?_
            refine t_kw hp36 hS 7 (.slice t42_8.a t42_8.n t42_8.c : Value) rfl (wanted_none rfl) rfl rfl (by kernel_rfl) (fun _ _ => by kernel_rfl) fun hS => ?_
            refine t_kw hp36 hS 8 (.slice b0_1.a b0_1.n b0_1.c : Value) rfl (wanted_none rfl) rfl rfl (by kernel_rfl) (fun _ _ => by kernel_rfl) fun hS => ?_
            refine t_kw hp36 hS 9 (.int .i64 ((b0_1.n : Int)) : Value) rfl (wanted_none rfl) rfl rfl (by kernel_rfl) (fun _ _ => by kernel_rfl) fun hS => ?_
            obtain ⟨t72_31, hx38, h⟩ := h
            refine t_add ⟨10, [12, 21, 22, 23], fun wx => (Instr.sliceAt 22 (.slice t42_8.a t42_8.n t42_8.c : Value) none (some (.int .i64 ((b0_1.n : Int)) : Value)) none).run Try.prog wx = .ok (.slice t72_31.a t72_31.n t72_31.c : Value) wx⟩ ?_
            replace hS := SF_on (x := ⟨10, [12, 21, 22, 23], fun wx => (Instr.sliceAt 22 (.slice t42_8.a t42_8.n t42_8.c : Value) none (some (.int .i64 ((b0_1.n : Int)) : Value)) none).run Try.prog wx = .ok (.slice t72_31.a t72_31.n t72_31.c : Value) wx⟩) hx38 hS
            refine t_v (s := Instr.sliceAt 22 (.slice t42_8.a t42_8.n t42_8.c : Value) none (some (.int .i64 ((b0_1.n : Int)) : Value)) none) hp36 hS 10 (.slice t72_31.a t72_31.n t72_31.c : Value) rfl (wanted_none rfl) rfl rfl (by kernel_rfl) (by kernel_rfl) (fun _ hw => (Sw.fact (List.Mem.head _) rfl hw)) fun hS => ?_
            refine t_kw hp36 hS 11 (.int .i64 m2_3 : Value) rfl (wanted_none rfl) rfl rfl (by kernel_rfl) (fun _ _ => by kernel_rfl) fun hS => ?_
            refine t_kw hp36 hS 13 (.slice t42_8.a t42_8.n t42_8.c : Value) rfl (wanted_none rfl) rfl rfl (by kernel_rfl) (fun _ _ => by kernel_rfl) fun hS => ?_
            refine t_kw hp36 hS 14 (.slice b0_1.a b0_1.n b0_1.c : Value) rfl (wanted_none rfl) rfl rfl (by kernel_rfl) (fun _ _ => by kernel_rfl) fun hS => ?_
            refine t_kw hp36 hS 15 (.int .i64 ((b0_1.n : Int)) : Value) rfl (wanted_none rfl) rfl rfl (by kernel_rfl) (fun _ _ => by kernel_rfl) fun hS => ?_
            obtain ⟨t78_32, hx39, h⟩ := h
            refine t_add ⟨16, [21, 22, 23], fun wx => (Instr.sliceAt 22 (.slice t42_8.a t42_8.n t42_8.c : Value) none (some (.int .i64 ((b0_1.n : Int)) : Value)) none).run Try.prog wx = .ok (.slice t78_32.a t78_32.n t78_32.c : Value) wx⟩ ?_
            replace hS := SF_on (x := ⟨16, [21, 22, 23], fun wx => (Instr.sliceAt 22 (.slice t42_8.a t42_8.n t42_8.c : Value) none (some (.int .i64 ((b0_1.n : Int)) : Value)) none).run Try.prog wx = .ok (.slice t78_32.a t78_32.n t78_32.c : Value) wx⟩) hx39 hS
            refine t_v (s := Instr.sliceAt 22 (.slice t42_8.a t42_8.n t42_8.c : Value) none (some (.int .i64 ((b0_1.n : Int)) : Value)) none) hp36 hS 16 (.slice t78_32.a t78_32.n t78_32.c : Value) rfl (wanted_none rfl) rfl rfl (by kernel_rfl) (by kernel_rfl) (fun _ hw => (Sw.fact (List.Mem.head _) rfl hw)) fun hS => ?_
            refine t_kw hp36 hS 17 (.slice t44_10.a t44_10.n t44_10.c : Value) rfl (wanted_none rfl) rfl rfl (by kernel_rfl) (fun _ _ => by kernel_rfl) fun hS => ?_
            refine t_kw hp36 hS 18 (.slice s3_4.a s3_4.n s3_4.c : Value) rfl (wanted_none rfl) rfl rfl (by kernel_rfl) (fun _ _ => by kernel_rfl) fun hS => ?_
            refine t_kw hp36 hS 19 (.int .i64 ((s3_4.n : Int)) : Value) rfl (wanted_none rfl) rfl rfl (by kernel_rfl) (fun _ _ => by kernel_rfl) fun hS => ?_
            obtain ⟨t82_33, hx40, h⟩ := h
            refine t_add ⟨20, [21, 22, 23], fun wx => (Instr.sliceAt 22 (.slice t44_10.a t44_10.n t44_10.c : Value) none (some (.int .i64 ((s3_4.n : Int)) : Value)) none).run Try.prog wx = .ok (.slice t82_33.a t82_33.n t82_33.c : Value) wx⟩ ?_
            replace hS := SF_on (x := ⟨20, [21, 22, 23], fun wx => (Instr.sliceAt 22 (.slice t44_10.a t44_10.n t44_10.c : Value) none (some (.int .i64 ((s3_4.n : Int)) : Value)) none).run Try.prog wx = .ok (.slice t82_33.a t82_33.n t82_33.c : Value) wx⟩) hx40 hS
            refine t_v (s := Instr.sliceAt 22 (.slice t44_10.a t44_10.n t44_10.c : Value) none (some (.int .i64 ((s3_4.n : Int)) : Value)) none) hp36 hS 20 (.slice t82_33.a t82_33.n t82_33.c : Value) rfl (wanted_none rfl) rfl rfl (by kernel_rfl) (by kernel_rfl) (fun _ hw => (Sw.fact (List.Mem.head _) rfl hw)) fun hS => ?_
            refine t_call 6 (by kernel_rfl) rfl (wanted_none rfl) rfl rfl (by kernel_rfl) (h.mono ?_)
            rintro _ w_35 ⟨t68_34, rfl, hx41, hx42, hx43, h⟩
            refine ⟨_, rfl, (SF_on hx41 (SF_on hx42 (SF_on hx43 (SF_off (by kernel_rfl) (by kernel_rfl) SF_nil)))), fun hS => ?_⟩
            refine t_call 12 (by kernel_rfl) rfl (wanted_none rfl) rfl rfl (by kernel_rfl) (h.mono ?_)
            rintro _ w_37 ⟨t74_36, rfl, hx44, hx45, h⟩
            refine ⟨_, rfl, (SF_on hx44 (SF_on hx45 (SF_off (by kernel_rfl) (by kernel_rfl) (SF_off (by kernel_rfl) (by kernel_rfl) SF_nil)))), fun hS => ?_⟩
            refine t_call 21 (by kernel_rfl) rfl (wanted_none rfl) rfl rfl (by kernel_rfl) (h.mono ?_)
            rintro _ w_39 ⟨t83_38, rfl, h⟩
            refine ⟨_, rfl, (SF_off (by kernel_rfl) (by kernel_rfl) (SF_off (by kernel_rfl) (by kernel_rfl) (SF_off (by kernel_rfl) (by kernel_rfl) (SF_off (by kernel_rfl) (by kernel_rfl) SF_nil)))), fun hS => ?_⟩
            replace h := h _ rfl
            refine t_kstep 22 (.slice (some ⟨w_39.heap.size, 0, none⟩) 3 3 : Value) (w_39.alloc (.cells #[.slice t68_34.a t68_34.n t68_34.c, .slice t74_36.a t74_36.n t74_36.c, .slice t83_38.a t83_38.n t83_38.c] 22)) (by kernel_rfl) rfl (wanted_none rfl) rfl rfl (by kernel_rfl) (SF_off (by kernel_rfl) (by kernel_rfl) (SF_off (by kernel_rfl) (by kernel_rfl) (SF_off (by kernel_rfl) (by kernel_rfl) (SF_off (by kernel_rfl) (by kernel_rfl) SF_nil)))) fun hS => ?_
            generalize w_39.alloc (.cells #[.slice t68_34.a t68_34.n t68_34.c, .slice t74_36.a t74_36.n t74_36.c, .slice t83_38.a t83_38.n t83_38.c] 22) = w_40 at hS h ⊢
            obtain ⟨t85_41, w_42, hx46, h⟩ := h
            refine t_w 23 (s := Builtin.append_ #[26, 26] 26 #[.slice all13_26.a all13_26.n all13_26.c, .slice (some ⟨w_39.heap.size, 0, none⟩) 3 3]) (by kernel_rfl) rfl (wanted_none rfl) rfl rfl (by kernel_rfl) hx46 (SF_off (by kernel_rfl) (by kernel_rfl) (SF_off (by kernel_rfl) (by kernel_rfl) (SF_off (by kernel_rfl) (by kernel_rfl) (SF_off (by kernel_rfl) (by kernel_rfl) SF_nil)))) fun hS => ?_
            refine t_kw hp36 hS 24 (.slice t85_41.a t85_41.n t85_41.c : Value) rfl (wanted_none rfl) rfl rfl (by kernel_rfl) (fun _ _ => by kernel_rfl) fun hS => ?_
            refine t_done (by kernel_rfl) (hE36 _ _ ?_)
            refine y_then (hK35 _ _ ?_)
            refine y_seq fun K47 hK47 => ?_
            refine y_region ?_
            refine y_k (.slice t42_8.a t42_8.n t42_8.c : Value) w_42 rfl rfl rfl (by kernel_rfl) ?_
            refine y_k (.slice b0_1.a b0_1.n b0_1.c : Value) w_42 rfl rfl rfl (by kernel_rfl) ?_
            refine y_call rfl rfl rfl (by kernel_rfl) (h.mono ?_)
            rintro _ w_44 ⟨t88_43, rfl, h⟩
            refine ⟨_, rfl, ?_⟩
            refine y_k (.bool t88_43 : Value) w_44 rfl rfl rfl (by kernel_rfl) ?_
            refine y_nil ?_
            refine y_then (hK47 _ _ ?_)
            refine y_seq fun K48 hK48 => ?_
            refine y_region ?_
            refine y_k (.slice t44_10.a t44_10.n t44_10.c : Value) w_44 rfl rfl rfl (by kernel_rfl) ?_
            refine y_k (.slice s3_4.a s3_4.n s3_4.c : Value) w_44 rfl rfl rfl (by kernel_rfl) ?_
            refine y_call rfl rfl rfl (by kernel_rfl) (h.mono ?_)
            rintro _ w_46 ⟨t91_45, rfl, h⟩
            refine ⟨_, rfl, ?_⟩
            refine y_k (.bool t91_45 : Value) w_46 rfl rfl rfl (by kernel_rfl) ?_
            refine y_nil ?_
            refine y_then (hK48 _ _ ?_)
            refine y_seq fun K49 hK49 => ?_
            refine y_region ?_
            refine y_k (.bool t88_43 : Value) w_46 rfl rfl rfl (by kernel_rfl) ?_
            refine y_k (.bool (!(t88_43)) : Value) w_46 rfl rfl rfl (by kernel_rfl) ?_
            refine y_k (.bool (!(t88_43)) : Value) w_46 rfl rfl rfl (by kernel_rfl) ?_
            refine y_fork (!(t88_43)) (fun hb50 => ?_) (fun hb50 => ?_)
            · replace h := h.1 ((not_true_of hb50))
              refine y_frame (upd_id (i := 94) (v := .bool true) rfl (congrArg Value.bool hb50)) ?_
              refine y_gno rfl rfl rfl rfl ?_
              refine y_gno rfl rfl rfl rfl ?_
              refine y_k (.bool true : Value) w_46 rfl rfl rfl (by kernel_rfl) ?_
              refine y_nil ?_
              refine y_then (hK49 _ _ ?_)
              refine y_cond_t rfl rfl ?_
              refine y_seq fun K51 hK51 => ?_
              refine y_region ?_
              refine y_k (.bool false : Value) w_46 rfl rfl rfl (by kernel_rfl) ?_
              refine y_nil ?_
              refine y_then (hK51 _ _ ?_)
              refine y_ret ?_
              repeat (first | refine e_then_r ?_ | refine e_block_r ?_)
              exact (hQ0 _ _ _ (res1 (v := (.bool false : Value)) rfl rfl rfl) ⟨_, rfl, h⟩).1
            · replace h := h.2 ((not_false_of hb50))
              refine y_frame (upd_id (i := 94) (v := .bool false) rfl (congrArg Value.bool hb50)) ?_
              refine y_gyes rfl rfl rfl ?_
              refine y_k (.bool t91_45 : Value) w_46 rfl rfl rfl (by kernel_rfl) ?_
              refine y_gyes rfl rfl rfl ?_
              refine y_k (.bool (!(t91_45)) : Value) w_46 rfl rfl rfl (by kernel_rfl) ?_
              refine y_k (.bool (!(t91_45)) : Value) w_46 rfl rfl rfl (by kernel_rfl) ?_
              refine y_nil ?_
              refine y_then (hK49 _ _ ?_)
              refine y_cond (!(t91_45)) rfl rfl (fun hb53 => ?_) (fun hb53 => ?_)
              · replace h := h.1 ((not_true_of hb53))
                refine y_seq fun K52 hK52 => ?_
                refine y_region ?_
                refine y_k (.bool false : Value) w_46 rfl rfl rfl (by kernel_rfl) ?_
                refine y_nil ?_
                refine y_then (hK52 _ _ ?_)
                refine y_ret ?_
                repeat (first | refine e_then_r ?_ | refine e_block_r ?_)
                exact (hQ0 _ _ _ (res1 (v := (.bool false : Value)) rfl rfl rfl) ⟨_, rfl, h⟩).1
              · replace h := h.2 ((not_false_of hb53))
                refine y_skip ?_
                refine e_block_n ?_
                refine y_then (hK33 _ _ ?_)
                refine y_region ?_
                refine y_k (.int .i64 turn15_27 : Value) w_46 rfl rfl rfl (by kernel_rfl) ?_
                refine y_k (.int .i64 (IntKind.i64.wrap (turn15_27 + 1)) : Value) w_46 rfl rfl rfl (by kernel_rfl) ?_
                refine y_k (.int .i64 (IntKind.i64.wrap (turn15_27 + 1)) : Value) w_46 rfl rfl rfl (by kernel_rfl) ?_
                refine y_nil ?_
                refine y_then (hN30 (t85_41, IntKind.i64.wrap (turn15_27 + 1)) _ _ h ?_)
                dsimp only
                refine upd_id ?_ rfl
                refine upd_id ?_ rfl
                refine upd_id ?_ rfl
                refine upd_id ?_ rfl
                refine upd_id ?_ rfl
                refine upd_id ?_ rfl
                refine upd_id ?_ rfl
                refine upd_id ?_ rfl
                refine upd_id ?_ rfl
                refine upd_id ?_ rfl
                refine upd_id ?_ rfl
                rfl
          · replace h := h.2 (of_decide_eq_false hb121)
            refine y_exit ?_
            repeat (first | refine e_then_x ?_ | refine e_block_y rfl ?_)
            refine e_block_x ?_
            refine y_then (hK26 _ _ ?_)
            refine y_seq fun K54 hK54 => ?_
            refine y_seq fun K55 hK55 => ?_
            refine y_region ?_
            refine y_k (.int .i64 0 : Value) w_28 rfl rfl rfl (by kernel_rfl) ?_
            refine y_nil ?_
            refine y_then (hK55 _ _ ?_)
            refine y_block ?_
            refine y_loop (S := Int) (fun s j => match s with | (i18_47) => upd (upd (upd (upd (upd (upd (upd (upd (upd (j) 0 (.slice b0_1.a b0_1.n b0_1.c : Value)) 3 (.slice s3_4.a s3_4.n s3_4.c : Value)) 9 (.bool t25_5 : Value)) 10 (.pointer (some (⟨w_6.heap.size, 0, none⟩ : Addr)) : Value)) 11 (.slice t42_8.a t42_8.n t42_8.c : Value)) 12 (.slice t44_10.a t44_10.n t44_10.c : Value)) 13 (.slice all13_26.a all13_26.n all13_26.c : Value)) 14 (.pointer (some want14_24) : Value)) 18 (.int .i64 i18_47 : Value)) (0) ?_ h ?_
            · dsimp only
              refine upd_id ?_ rfl
              refine upd_id ?_ rfl
              refine upd_id ?_ rfl
              refine upd_id ?_ rfl
              refine upd_id ?_ rfl
              refine upd_id ?_ rfl
              refine upd_id ?_ rfl
              refine upd_id ?_ rfl
              refine upd_id ?_ rfl
              rfl
            rintro KN58 next57 hN58 i18_47 j w_48 h
            unfold F3_l3 at h
            refine y_seq fun K59 hK59 => ?_
            refine y_seq fun K60 hK60 => ?_
            refine y_region ?_
            refine y_k (.int .i64 i18_47 : Value) w_48 rfl rfl rfl (by kernel_rfl) ?_
            refine y_k (.slice all13_26.a all13_26.n all13_26.c : Value) w_48 rfl rfl rfl (by kernel_rfl) ?_
            refine y_k (.int .i64 ((all13_26.n : Int)) : Value) w_48 rfl rfl rfl (by kernel_rfl) ?_
            refine y_k (.bool (decide (i18_47 < ((all13_26.n : Int)))) : Value) w_48 rfl rfl rfl (by kernel_rfl) ?_
            refine y_nil ?_
            refine y_then (hK60 _ _ ?_)
            refine y_cond (decide (i18_47 < ((all13_26.n : Int)))) rfl rfl (fun hb120 => ?_) (fun hb120 => ?_)
            · replace h := h.1 (of_decide_eq_true hb120)
              refine y_skip ?_
              refine y_then (hK59 _ _ ?_)
              refine y_seq fun K61 hK61 => ?_
              refine y_block ?_
              refine y_seq fun K63 hK63 => ?_
              refine q_region (by kernel_rfl) (by kernel_rfl) fun Qq64 hQq64 => ?_
              refine q_k (.slice all13_26.a all13_26.n all13_26.c : Value) rfl rfl rfl (fun _ => by kernel_rfl) ?_
              refine q_k (.int .i64 i18_47 : Value) rfl rfl rfl (fun _ => by kernel_rfl) ?_
              obtain ⟨hx65a, hx65b, a_49, hx65, h⟩ := h
              refine q_v (v := (.pointer (some (a_49.add (Int.toNat i18_47))) : Value)) (s := Instr.indexAt 26 (.slice all13_26.a all13_26.n all13_26.c : Value) (.int .i64 i18_47 : Value)) rfl rfl rfl (by kernel_rfl) (fun _ => run_ixs1 (el := 22) (by kernel_rfl) (by kernel_rfl) hx65 hx65a hx65b) ?_
              obtain ⟨t107_50, hx66, h⟩ := h
              refine q_v (v := (.slice t107_50.a t107_50.n t107_50.c : Value)) (s := Instr.loadAt 22 (.pointer (some (a_49.add (Int.toNat i18_47))))) rfl rfl rfl (by kernel_rfl) (fun _ => rn_load (by kernel_rfl) hx66) ?_
              obtain ⟨t108_51, hx67, h⟩ := h
              refine q_v (v := (.string t108_51 : Value)) (s := convert 22 9 (.slice t107_50.a t107_50.n t107_50.c : Value)) rfl rfl rfl (by kernel_rfl) (fun _ => (hx67 _)) ?_
              refine q_k (.int .i64 i18_47 : Value) rfl rfl rfl (fun _ => by kernel_rfl) ?_
              refine q_k (.int .i64 (Int.tmod i18_47 3) : Value) rfl rfl rfl (fun _ => by kernel_rfl) ?_
              obtain ⟨hx68a, hx68b, h⟩ := h
              refine q_v (v := (.pointer (some (want14_24.add (Int.toNat (Int.tmod i18_47 3)))) : Value)) (s := Instr.indexAt 33 (.pointer (some want14_24) : Value) (.int .i64 (Int.tmod i18_47 3) : Value)) rfl rfl rfl (by kernel_rfl) (fun _ => run_ixa1 (el := 9) (by kernel_rfl) (by kernel_rfl) hx68a hx68b) ?_
              obtain ⟨t112_52, hx69, h⟩ := h
              refine q_v (v := (.string t112_52 : Value)) (s := Instr.loadAt 9 (.pointer (some (want14_24.add (Int.toNat (Int.tmod i18_47 3)))))) rfl rfl rfl (by kernel_rfl) (fun _ => rn_load (by kernel_rfl) hx69) ?_
              refine q_k (.bool (!((t108_51.toList == t112_52.toList))) : Value) rfl rfl rfl (fun _ => by kernel_rfl) ?_
              refine q_nil (hQq64 _ fun m72 => ?_)
              replace h := h _ ⟨m72, rfl⟩
              generalize w_48.drewN m72 = w_53 at h ⊢
              refine y_then (hK63 _ _ ?_)
              refine y_cond (!((t108_51.toList == t112_52.toList))) rfl rfl (fun hb71 => ?_) (fun hb71 => ?_)
              · replace h := h.1 (beq_eq_false_iff_ne.mp (not_true_of hb71))
                refine y_seq fun K70 hK70 => ?_
                refine y_region ?_
                refine y_k (.bool false : Value) w_53 rfl rfl rfl (by kernel_rfl) ?_
                refine y_nil ?_
                refine y_then (hK70 _ _ ?_)
                refine y_ret ?_
                repeat (first | refine e_then_r ?_ | refine e_block_r ?_)
                exact (hQ0 _ _ _ (res1 (v := (.bool false : Value)) rfl rfl rfl) ⟨_, rfl, h⟩).1
              · replace h := h.2 (eq_of_beq (not_false_of hb71))
                refine y_skip ?_
                refine e_block_n ?_
                refine y_then (hK61 _ _ ?_)
                refine y_region ?_
                refine y_k (.int .i64 i18_47 : Value) w_53 rfl rfl rfl (by kernel_rfl) ?_
                refine y_k (.int .i64 (IntKind.i64.wrap (i18_47 + 1)) : Value) w_53 rfl rfl rfl (by kernel_rfl) ?_
                refine y_k (.int .i64 (IntKind.i64.wrap (i18_47 + 1)) : Value) w_53 rfl rfl rfl (by kernel_rfl) ?_
                refine y_nil ?_
                refine y_then (hN58 (IntKind.i64.wrap (i18_47 + 1)) _ _ h ?_)
                dsimp only
                refine upd_id ?_ rfl
                refine upd_id ?_ rfl
                refine upd_id ?_ rfl
                refine upd_id ?_ rfl
                refine upd_id ?_ rfl
                refine upd_id ?_ rfl
                refine upd_id ?_ rfl
                refine upd_id ?_ rfl
                refine upd_id ?_ rfl
                rfl
            · replace h := h.2 (of_decide_eq_false hb120)
              refine y_exit ?_
              repeat (first | refine e_then_x ?_ | refine e_block_y rfl ?_)
              refine e_block_x ?_
              refine y_then (hK54 _ _ ?_)
              refine y_seq fun K73 hK73 => ?_
              refine y_region ?_
              refine y_k (.pointer (some (⟨w_6.heap.size, 0, none⟩ : Addr)) : Value) w_48 rfl rfl rfl (by kernel_rfl) ?_
              refine y_k (.slice all13_26.a all13_26.n all13_26.c : Value) w_48 rfl rfl rfl (by kernel_rfl) ?_
              refine y_call rfl rfl rfl (by kernel_rfl) (h.mono ?_)
              rintro _ w_54 ⟨rfl, h⟩
              refine ⟨_, rfl, ?_⟩
              refine y_nil ?_
              refine y_then (hK73 _ _ ?_)
              refine y_seq fun K74 hK74 => ?_
              refine y_region ?_
              refine y_k (.pointer (some (⟨w_6.heap.size, 0, none⟩ : Addr)) : Value) w_54 rfl rfl rfl (by kernel_rfl) ?_
              refine y_call rfl rfl rfl (by kernel_rfl) (h.mono ?_)
              rintro _ w_56 ⟨t118_55, rfl, h⟩
              refine ⟨_, rfl, ?_⟩
              refine y_k (.bool t118_55 : Value) w_56 rfl rfl rfl (by kernel_rfl) ?_
              refine y_nil ?_
              refine y_then (hK74 _ _ ?_)
              refine y_seq fun K75 hK75 => ?_
              refine y_region ?_
              refine y_k (.slice t42_8.a t42_8.n t42_8.c : Value) w_56 rfl rfl rfl (by kernel_rfl) ?_
              refine y_k (.slice b0_1.a b0_1.n b0_1.c : Value) w_56 rfl rfl rfl (by kernel_rfl) ?_
              refine y_call rfl rfl rfl (by kernel_rfl) (h.mono ?_)
              rintro _ w_58 ⟨t121_57, rfl, h⟩
              refine ⟨_, rfl, ?_⟩
              refine y_k (.bool t121_57 : Value) w_58 rfl rfl rfl (by kernel_rfl) ?_
              refine y_nil ?_
              refine y_then (hK75 _ _ ?_)
              refine y_seq fun K76 hK76 => ?_
              refine y_region ?_
              refine y_k (.slice t44_10.a t44_10.n t44_10.c : Value) w_58 rfl rfl rfl (by kernel_rfl) ?_
              refine y_k (.slice s3_4.a s3_4.n s3_4.c : Value) w_58 rfl rfl rfl (by kernel_rfl) ?_
              refine y_call rfl rfl rfl (by kernel_rfl) (h.mono ?_)
              rintro _ w_60 ⟨t124_59, rfl, h⟩
              refine ⟨_, rfl, ?_⟩
              refine y_k (.bool t124_59 : Value) w_60 rfl rfl rfl (by kernel_rfl) ?_
              refine y_nil ?_
              refine y_then (hK76 _ _ ?_)
              refine y_seq fun K77 hK77 => ?_
              refine y_seq fun K78 hK78 => ?_
              refine y_region ?_
              refine y_k (.int .i64 0 : Value) w_60 rfl rfl rfl (by kernel_rfl) ?_
              refine y_nil ?_
              refine y_then (hK78 _ _ ?_)
              refine y_block ?_
              refine y_loop (S := Int) (fun s j => match s with | (i22_61) => upd (upd (upd (upd (upd (upd (upd (upd (upd (j) 0 (.slice b0_1.a b0_1.n b0_1.c : Value)) 3 (.slice s3_4.a s3_4.n s3_4.c : Value)) 9 (.bool t25_5 : Value)) 11 (.slice t42_8.a t42_8.n t42_8.c : Value)) 12 (.slice t44_10.a t44_10.n t44_10.c : Value)) 19 (.bool t118_55 : Value)) 20 (.bool t121_57 : Value)) 21 (.bool t124_59 : Value)) 22 (.int .i64 i22_61 : Value)) (0) ?_ h ?_
              · dsimp only
                refine upd_id ?_ rfl
                refine upd_id ?_ rfl
                refine upd_id ?_ rfl
                refine upd_id ?_ rfl
                refine upd_id ?_ rfl
                refine upd_id ?_ rfl
                refine upd_id ?_ rfl
                refine upd_id ?_ rfl
                refine upd_id ?_ rfl
                rfl
              rintro KN81 next80 hN81 i22_61 j w_62 h
              unfold F3_l4 at h
              refine y_seq fun K82 hK82 => ?_
              refine y_seq fun K83 hK83 => ?_
              refine y_region ?_
              refine y_k (.int .i64 i22_61 : Value) w_62 rfl rfl rfl (by kernel_rfl) ?_
              refine y_k (.slice t42_8.a t42_8.n t42_8.c : Value) w_62 rfl rfl rfl (by kernel_rfl) ?_
              refine y_k (.int .i64 ((t42_8.n : Int)) : Value) w_62 rfl rfl rfl (by kernel_rfl) ?_
              refine y_k (.bool (decide (i22_61 < ((t42_8.n : Int)))) : Value) w_62 rfl rfl rfl (by kernel_rfl) ?_
              refine y_nil ?_
              refine y_then (hK83 _ _ ?_)
              refine y_cond (decide (i22_61 < ((t42_8.n : Int)))) rfl rfl (fun hb119 => ?_) (fun hb119 => ?_)
              · replace h := h.1 (of_decide_eq_true hb119)
                refine y_skip ?_
                refine y_then (hK82 _ _ ?_)
                refine y_seq fun K84 hK84 => ?_
                refine y_block ?_
                refine y_region ?_
                refine y_k (.slice t42_8.a t42_8.n t42_8.c : Value) w_62 rfl rfl rfl (by kernel_rfl) ?_
                refine y_k (.int .i64 i22_61 : Value) w_62 rfl rfl rfl (by kernel_rfl) ?_
                refine y_k (.slice t42_8.a t42_8.n t42_8.c : Value) w_62 rfl rfl rfl (by kernel_rfl) ?_
                refine y_k (.int .i64 i22_61 : Value) w_62 rfl rfl rfl (by kernel_rfl) ?_
                obtain ⟨hx86a, hx86b, a_63, hx86, h⟩ := h
                refine y_v (v := (.pointer (some (a_63.add (Int.toNat i22_61))) : Value)) (s := Instr.indexAt 22 (.slice t42_8.a t42_8.n t42_8.c : Value) (.int .i64 i22_61 : Value)) rfl rfl rfl (by kernel_rfl) (run_ixs1 (el := 5) (by kernel_rfl) (by kernel_rfl) hx86 hx86a hx86b) ?_
                obtain ⟨t136_64, hx87, h⟩ := h
                refine y_v (s := Instr.loadAt 5 (.pointer (some (a_63.add (Int.toNat i22_61))))) rfl rfl rfl (by kernel_rfl) (rn_load (by kernel_rfl) hx87) ?_
                refine y_k (.int .u8 (IntKind.u8.wrap (t136_64 + 1)) : Value) w_62 rfl rfl rfl (by kernel_rfl) ?_
                obtain ⟨hx88a, hx88b, a_65, hx88, h⟩ := h
                refine y_v (v := (.pointer (some (a_65.add (Int.toNat i22_61))) : Value)) (s := Instr.indexAt 22 (.slice t42_8.a t42_8.n t42_8.c : Value) (.int .i64 i22_61 : Value)) rfl rfl rfl (by kernel_rfl) (run_ixs1 (el := 5) (by kernel_rfl) (by kernel_rfl) hx88 hx88a hx88b) ?_
                obtain ⟨hx89, h⟩ := h
                replace h := h _ rfl
                refine y_u (s := Instr.storeAt 5 (.pointer (some (a_65.add (Int.toNat i22_61)))) (.int .u8 (IntKind.u8.wrap (t136_64 + 1)) : Value)) rfl rfl (by kernel_rfl) (rn_store1 (by kernel_rfl) rfl hx89) ?_
                generalize w_62.setCell (a_65.add (Int.toNat i22_61)) (.int .u8 (IntKind.u8.wrap (t136_64 + 1)) : Value) = w_66 at h ⊢
                refine y_nil ?_
                refine e_block_n ?_
                refine y_then (hK84 _ _ ?_)
                refine y_region ?_
                refine y_k (.int .i64 i22_61 : Value) w_66 rfl rfl rfl (by kernel_rfl) ?_
                refine y_k (.int .i64 (IntKind.i64.wrap (i22_61 + 1)) : Value) w_66 rfl rfl rfl (by kernel_rfl) ?_
                refine y_k (.int .i64 (IntKind.i64.wrap (i22_61 + 1)) : Value) w_66 rfl rfl rfl (by kernel_rfl) ?_
                refine y_nil ?_
                refine y_then (hN81 (IntKind.i64.wrap (i22_61 + 1)) _ _ h ?_)
                dsimp only
                refine upd_id ?_ rfl
                refine upd_id ?_ rfl
                refine upd_id ?_ rfl
                refine upd_id ?_ rfl
                refine upd_id ?_ rfl
                refine upd_id ?_ rfl
                refine upd_id ?_ rfl
                refine upd_id ?_ rfl
                refine upd_id ?_ rfl
                rfl
              · replace h := h.2 (of_decide_eq_false hb119)
                refine y_exit ?_
                repeat (first | refine e_then_x ?_ | refine e_block_y rfl ?_)
                refine e_block_x ?_
                refine y_then (hK77 _ _ ?_)
                refine y_seq fun K90 hK90 => ?_
                refine y_seq fun K91 hK91 => ?_
                refine y_region ?_
                refine y_k (.int .i64 0 : Value) w_62 rfl rfl rfl (by kernel_rfl) ?_
                refine y_nil ?_
                refine y_then (hK91 _ _ ?_)
                refine y_block ?_
                refine y_loop (S := Int) (fun s j => match s with | (i23_67) => upd (upd (upd (upd (upd (upd (upd (upd (upd (j) 0 (.slice b0_1.a b0_1.n b0_1.c : Value)) 3 (.slice s3_4.a s3_4.n s3_4.c : Value)) 9 (.bool t25_5 : Value)) 11 (.slice t42_8.a t42_8.n t42_8.c : Value)) 12 (.slice t44_10.a t44_10.n t44_10.c : Value)) 19 (.bool t118_55 : Value)) 20 (.bool t121_57 : Value)) 21 (.bool t124_59 : Value)) 23 (.int .i64 i23_67 : Value)) (0) ?_ h ?_
                · dsimp only
                  refine upd_id ?_ rfl
                  refine upd_id ?_ rfl
                  refine upd_id ?_ rfl
                  refine upd_id ?_ rfl
                  refine upd_id ?_ rfl
                  refine upd_id ?_ rfl
                  refine upd_id ?_ rfl
                  refine upd_id ?_ rfl
                  refine upd_id ?_ rfl
                  rfl
                rintro KN94 next93 hN94 i23_67 j w_68 h
                unfold F3_l5 at h
                refine y_seq fun K95 hK95 => ?_
                refine y_seq fun K96 hK96 => ?_
                refine y_region ?_
                refine y_k (.int .i64 i23_67 : Value) w_68 rfl rfl rfl (by kernel_rfl) ?_
                refine y_k (.slice t44_10.a t44_10.n t44_10.c : Value) w_68 rfl rfl rfl (by kernel_rfl) ?_
                refine y_k (.int .i64 ((t44_10.n : Int)) : Value) w_68 rfl rfl rfl (by kernel_rfl) ?_
                refine y_k (.bool (decide (i23_67 < ((t44_10.n : Int)))) : Value) w_68 rfl rfl rfl (by kernel_rfl) ?_
                refine y_nil ?_
                refine y_then (hK96 _ _ ?_)
                refine y_cond (decide (i23_67 < ((t44_10.n : Int)))) rfl rfl (fun hb118 => ?_) (fun hb118 => ?_)
                · replace h := h.1 (of_decide_eq_true hb118)
                  refine y_skip ?_
                  refine y_then (hK95 _ _ ?_)
                  refine y_seq fun K97 hK97 => ?_
                  refine y_block ?_
                  refine y_region ?_
                  refine y_k (.slice t44_10.a t44_10.n t44_10.c : Value) w_68 rfl rfl rfl (by kernel_rfl) ?_
                  refine y_k (.int .i64 i23_67 : Value) w_68 rfl rfl rfl (by kernel_rfl) ?_
                  refine y_k (.slice t44_10.a t44_10.n t44_10.c : Value) w_68 rfl rfl rfl (by kernel_rfl) ?_
                  refine y_k (.int .i64 i23_67 : Value) w_68 rfl rfl rfl (by kernel_rfl) ?_
                  obtain ⟨hx99a, hx99b, a_69, hx99, h⟩ := h
                  refine y_v (v := (.pointer (some (a_69.add (Int.toNat i23_67))) : Value)) (s := Instr.indexAt 22 (.slice t44_10.a t44_10.n t44_10.c : Value) (.int .i64 i23_67 : Value)) rfl rfl rfl (by kernel_rfl) (run_ixs1 (el := 5) (by kernel_rfl) (by kernel_rfl) hx99 hx99a hx99b) ?_
                  obtain ⟨t150_70, hx100, h⟩ := h
                  refine y_v (s := Instr.loadAt 5 (.pointer (some (a_69.add (Int.toNat i23_67))))) rfl rfl rfl (by kernel_rfl) (rn_load (by kernel_rfl) hx100) ?_
                  refine y_k (.int .u8 (IntKind.u8.wrap (t150_70 + 3)) : Value) w_68 rfl rfl rfl (by kernel_rfl) ?_
                  obtain ⟨hx101a, hx101b, a_71, hx101, h⟩ := h
                  refine y_v (v := (.pointer (some (a_71.add (Int.toNat i23_67))) : Value)) (s := Instr.indexAt 22 (.slice t44_10.a t44_10.n t44_10.c : Value) (.int .i64 i23_67 : Value)) rfl rfl rfl (by kernel_rfl) (run_ixs1 (el := 5) (by kernel_rfl) (by kernel_rfl) hx101 hx101a hx101b) ?_
                  obtain ⟨hx102, h⟩ := h
                  replace h := h _ rfl
                  refine y_u (s := Instr.storeAt 5 (.pointer (some (a_71.add (Int.toNat i23_67)))) (.int .u8 (IntKind.u8.wrap (t150_70 + 3)) : Value)) rfl rfl (by kernel_rfl) (rn_store1 (by kernel_rfl) rfl hx102) ?_
                  generalize w_68.setCell (a_71.add (Int.toNat i23_67)) (.int .u8 (IntKind.u8.wrap (t150_70 + 3)) : Value) = w_72 at h ⊢
                  refine y_nil ?_
                  refine e_block_n ?_
                  refine y_then (hK97 _ _ ?_)
                  refine y_region ?_
                  refine y_k (.int .i64 i23_67 : Value) w_72 rfl rfl rfl (by kernel_rfl) ?_
                  refine y_k (.int .i64 (IntKind.i64.wrap (i23_67 + 1)) : Value) w_72 rfl rfl rfl (by kernel_rfl) ?_
                  refine y_k (.int .i64 (IntKind.i64.wrap (i23_67 + 1)) : Value) w_72 rfl rfl rfl (by kernel_rfl) ?_
                  refine y_nil ?_
                  refine y_then (hN94 (IntKind.i64.wrap (i23_67 + 1)) _ _ h ?_)
                  dsimp only
                  refine upd_id ?_ rfl
                  refine upd_id ?_ rfl
                  refine upd_id ?_ rfl
                  refine upd_id ?_ rfl
                  refine upd_id ?_ rfl
                  refine upd_id ?_ rfl
                  refine upd_id ?_ rfl
                  refine upd_id ?_ rfl
                  refine upd_id ?_ rfl
                  rfl
                · replace h := h.2 (of_decide_eq_false hb118)
                  refine y_exit ?_
                  repeat (first | refine e_then_x ?_ | refine e_block_y rfl ?_)
                  refine e_block_x ?_
                  refine y_then (hK90 _ _ ?_)
                  refine y_seq fun K103 hK103 => ?_
                  obtain ⟨w_73, hwd104⟩ : ∃ wd : World, wd = w_68.drew := ⟨_, rfl⟩
                  replace h := h _ hwd104
                  refine t_region (wd := w_73) [] (by kernel_rfl) hwd104 SF_nil fun Q104 hE104 hp104 hS => ?_
                  clear hwd104
                  refine t_kw hp104 hS 0 (.slice t42_8.a t42_8.n t42_8.c : Value) rfl (wanted_none rfl) rfl rfl (by kernel_rfl) (fun _ _ => by kernel_rfl) fun hS => ?_
                  refine t_kw hp104 hS 1 (.slice b0_1.a b0_1.n b0_1.c : Value) rfl (wanted_none rfl) rfl rfl (by kernel_rfl) (fun _ _ => by kernel_rfl) fun hS => ?_
                  refine t_kw hp104 hS 2 (.int .i64 ((b0_1.n : Int)) : Value) rfl (wanted_none rfl) rfl rfl (by kernel_rfl) (fun _ _ => by kernel_rfl) fun hS => ?_
                  obtain ⟨t156_74, hx105, h⟩ := h
                  refine t_add ⟨3, [8], fun wx => (Instr.sliceAt 22 (.slice t42_8.a t42_8.n t42_8.c : Value) none (some (.int .i64 ((b0_1.n : Int)) : Value)) none).run Try.prog wx = .ok (.slice t156_74.a t156_74.n t156_74.c : Value) wx⟩ ?_
                  replace hS := SF_on (x := ⟨3, [8], fun wx => (Instr.sliceAt 22 (.slice t42_8.a t42_8.n t42_8.c : Value) none (some (.int .i64 ((b0_1.n : Int)) : Value)) none).run Try.prog wx = .ok (.slice t156_74.a t156_74.n t156_74.c : Value) wx⟩) hx105 hS
                  refine t_v (s := Instr.sliceAt 22 (.slice t42_8.a t42_8.n t42_8.c : Value) none (some (.int .i64 ((b0_1.n : Int)) : Value)) none) hp104 hS 3 (.slice t156_74.a t156_74.n t156_74.c : Value) rfl (wanted_none rfl) rfl rfl (by kernel_rfl) (by kernel_rfl) (fun _ hw => (Sw.fact (List.Mem.head _) rfl hw)) fun hS => ?_
                  refine t_kw hp104 hS 4 (.slice t44_10.a t44_10.n t44_10.c : Value) rfl (wanted_none rfl) rfl rfl (by kernel_rfl) (fun _ _ => by kernel_rfl) fun hS => ?_
                  refine t_kw hp104 hS 5 (.slice s3_4.a s3_4.n s3_4.c : Value) rfl (wanted_none rfl) rfl rfl (by kernel_rfl) (fun _ _ => by kernel_rfl) fun hS => ?_
                  refine t_kw hp104 hS 6 (.int .i64 ((s3_4.n : Int)) : Value) rfl (wanted_none rfl) rfl rfl (by kernel_rfl) (fun _ _ => by kernel_rfl) fun hS => ?_
                  obtain ⟨t160_75, hx106, h⟩ := h
                  refine t_add ⟨7, [8], fun wx => (Instr.sliceAt 22 (.slice t44_10.a t44_10.n t44_10.c : Value) none (some (.int .i64 ((s3_4.n : Int)) : Value)) none).run Try.prog wx = .ok (.slice t160_75.a t160_75.n t160_75.c : Value) wx⟩ ?_
                  replace hS := SF_on (x := ⟨7, [8], fun wx => (Instr.sliceAt 22 (.slice t44_10.a t44_10.n t44_10.c : Value) none (some (.int .i64 ((s3_4.n : Int)) : Value)) none).run Try.prog wx = .ok (.slice t160_75.a t160_75.n t160_75.c : Value) wx⟩) hx106 hS
                  refine t_v (s := Instr.sliceAt 22 (.slice t44_10.a t44_10.n t44_10.c : Value) none (some (.int .i64 ((s3_4.n : Int)) : Value)) none) hp104 hS 7 (.slice t160_75.a t160_75.n t160_75.c : Value) rfl (wanted_none rfl) rfl rfl (by kernel_rfl) (by kernel_rfl) (fun _ hw => (Sw.fact (List.Mem.head _) rfl hw)) fun hS => ?_
                  refine t_call 8 (by kernel_rfl) rfl (wanted_none rfl) rfl rfl (by kernel_rfl) (h.mono ?_)
                  rintro _ w_77 ⟨t161_76, rfl, h⟩
                  refine ⟨_, rfl, (SF_off (by kernel_rfl) (by kernel_rfl) (SF_off (by kernel_rfl) (by kernel_rfl) SF_nil)), fun hS => ?_⟩
                  refine t_kw hp104 hS 9 (.slice t161_76.a t161_76.n t161_76.c : Value) rfl (wanted_none rfl) rfl rfl (by kernel_rfl) (fun _ _ => by kernel_rfl) fun hS => ?_
                  refine t_done (by kernel_rfl) (hE104 _ _ ?_)
                  refine y_then (hK103 _ _ ?_)
                  refine y_seq fun K107 hK107 => ?_
                  have hjK107 : ∀ (f : Fr) (t8_85 : Bool) (w_86 : World), f 8 = (.bool t8_85 : Value) → F3_j6 K t8_85 w_86 → WK K107 187 f w_86 := by
                    intro f t8_85 w_86 e8 h
                    refine y_atf (upd_id rfl e8) ?_
                    clear e8
                    unfold F3_j6 at h
                    refine hK107 _ _ ?_
                    refine y_ret ?_
                    repeat (first | refine e_then_r ?_ | refine e_block_r ?_)
                    exact (hQ0 _ _ _ (res1 (v := (.bool t8_85 : Value)) rfl rfl rfl) ⟨_, rfl, h⟩).1
                  obtain ⟨w_78, hwd108⟩ : ∃ wd : World, wd = w_77.drew := ⟨_, rfl⟩
                  replace h := h _ hwd108
                  refine t_region (wd := w_78) [] (by kernel_rfl) hwd108 SF_nil fun Q108 hE108 hp108 hS => ?_
                  clear hwd108
                  refine t_kw hp108 hS 0 (.bool t25_5 : Value) rfl (wanted_none rfl) rfl rfl (by kernel_rfl) (fun _ _ => by kernel_rfl) fun hS => ?_
                  refine t_kw hp108 hS 1 (.bool t25_5 : Value) rfl (wanted_none rfl) rfl rfl (by kernel_rfl) (fun _ _ => by kernel_rfl) fun hS => ?_
                  refine t_fork (t25_5) (fun hb109 => ?_) (fun hb109 => ?_)
                  · replace h := h.1 (hb109)
                    refine t_frame (upd_id (i := 163) (v := .bool true) rfl (congrArg Value.bool hb109)) ?_
                    refine t_kw hp108 hS 2 (.bool t118_55 : Value) rfl (wanted_some rfl rfl rfl rfl) rfl rfl (by kernel_rfl) (fun _ _ => by kernel_rfl) fun hS => ?_
                    refine t_kw hp108 hS 3 (.bool t118_55 : Value) rfl (wanted_none rfl) rfl rfl (by kernel_rfl) (fun _ _ => by kernel_rfl) fun hS => ?_
                    refine t_kw hp108 hS 4 (.bool t118_55 : Value) rfl (wanted_none rfl) rfl rfl (by kernel_rfl) (fun _ _ => by kernel_rfl) fun hS => ?_
                    refine t_fork (t118_55) (fun hb110 => ?_) (fun hb110 => ?_)
                    · replace h := h.1 (hb110)
                      refine t_frame (upd_id (i := 166) (v := .bool true) rfl (congrArg Value.bool hb110)) ?_
                      refine t_kw hp108 hS 5 (.bool t121_57 : Value) rfl (wanted_some rfl rfl rfl rfl) rfl rfl (by kernel_rfl) (fun _ _ => by kernel_rfl) fun hS => ?_
                      refine t_kw hp108 hS 6 (.bool t121_57 : Value) rfl (wanted_none rfl) rfl rfl (by kernel_rfl) (fun _ _ => by kernel_rfl) fun hS => ?_
                      refine t_kw hp108 hS 7 (.bool t121_57 : Value) rfl (wanted_none rfl) rfl rfl (by kernel_rfl) (fun _ _ => by kernel_rfl) fun hS => ?_
                      refine t_fork (t121_57) (fun hb111 => ?_) (fun hb111 => ?_)
                      · replace h := h.1 (hb111)
                        refine t_frame (upd_id (i := 169) (v := .bool true) rfl (congrArg Value.bool hb111)) ?_
                        refine t_kw hp108 hS 8 (.bool t124_59 : Value) rfl (wanted_some rfl rfl rfl rfl) rfl rfl (by kernel_rfl) (fun _ _ => by kernel_rfl) fun hS => ?_
                        refine t_kw hp108 hS 9 (.bool t124_59 : Value) rfl (wanted_none rfl) rfl rfl (by kernel_rfl) (fun _ _ => by kernel_rfl) fun hS => ?_
                        refine t_kw hp108 hS 10 (.bool t124_59 : Value) rfl (wanted_none rfl) rfl rfl (by kernel_rfl) (fun _ _ => by kernel_rfl) fun hS => ?_
                        refine t_fork (t124_59) (fun hb112 => ?_) (fun hb112 => ?_)
                        · replace h := h.1 (hb112)
                          refine t_frame (upd_id (i := 172) (v := .bool true) rfl (congrArg Value.bool hb112)) ?_
                          refine t_kw hp108 hS 11 (.slice t161_76.a t161_76.n t161_76.c : Value) rfl (wanted_some rfl rfl rfl rfl) rfl rfl (by kernel_rfl) (fun _ _ => by kernel_rfl) fun hS => ?_
                          obtain ⟨t174_79, hx113, h⟩ := h
                          refine t_add ⟨12, [], fun wx => (convert 22 9 (.slice t161_76.a t161_76.n t161_76.c : Value)).run Try.prog wx = .ok (.string t174_79 : Value) wx⟩ ?_
                          replace hS := SF_on (x := ⟨12, [], fun wx => (convert 22 9 (.slice t161_76.a t161_76.n t161_76.c : Value)).run Try.prog wx = .ok (.string t174_79 : Value) wx⟩) hx113 hS
                          refine t_v (s := convert 22 9 (.slice t161_76.a t161_76.n t161_76.c : Value)) hp108 hS 12 (.string t174_79 : Value) rfl (wanted_some rfl rfl rfl rfl) rfl rfl (by kernel_rfl) (by kernel_rfl) (fun _ hw => (Sw.fact (List.Mem.head _) rfl hw)) fun hS => ?_
                          refine t_kw hp108 hS 13 (.slice t42_8.a t42_8.n t42_8.c : Value) rfl (wanted_some rfl rfl rfl rfl) rfl rfl (by kernel_rfl) (fun _ _ => by kernel_rfl) fun hS => ?_
                          refine t_kw hp108 hS 14 (.slice b0_1.a b0_1.n b0_1.c : Value) rfl (wanted_some rfl rfl rfl rfl) rfl rfl (by kernel_rfl) (fun _ _ => by kernel_rfl) fun hS => ?_
                          refine t_kw hp108 hS 15 (.int .i64 ((b0_1.n : Int)) : Value) rfl (wanted_some rfl rfl rfl rfl) rfl rfl (by kernel_rfl) (fun _ _ => by kernel_rfl) fun hS => ?_
                          obtain ⟨t178_80, hx114, h⟩ := h
                          refine t_add ⟨16, [21], fun wx => (Instr.sliceAt 22 (.slice t42_8.a t42_8.n t42_8.c : Value) none (some (.int .i64 ((b0_1.n : Int)) : Value)) none).run Try.prog wx = .ok (.slice t178_80.a t178_80.n t178_80.c : Value) wx⟩ ?_
                          replace hS := SF_on (x := ⟨16, [21], fun wx => (Instr.sliceAt 22 (.slice t42_8.a t42_8.n t42_8.c : Value) none (some (.int .i64 ((b0_1.n : Int)) : Value)) none).run Try.prog wx = .ok (.slice t178_80.a t178_80.n t178_80.c : Value) wx⟩) hx114 hS
                          refine t_v (s := Instr.sliceAt 22 (.slice t42_8.a t42_8.n t42_8.c : Value) none (some (.int .i64 ((b0_1.n : Int)) : Value)) none) hp108 hS 16 (.slice t178_80.a t178_80.n t178_80.c : Value) rfl (wanted_some rfl rfl rfl rfl) rfl rfl (by kernel_rfl) (by kernel_rfl) (fun _ hw => (Sw.fact (List.Mem.head _) rfl hw)) fun hS => ?_
                          refine t_kw hp108 hS 17 (.slice t44_10.a t44_10.n t44_10.c : Value) rfl (wanted_some rfl rfl rfl rfl) rfl rfl (by kernel_rfl) (fun _ _ => by kernel_rfl) fun hS => ?_
                          refine t_kw hp108 hS 18 (.slice s3_4.a s3_4.n s3_4.c : Value) rfl (wanted_some rfl rfl rfl rfl) rfl rfl (by kernel_rfl) (fun _ _ => by kernel_rfl) fun hS => ?_
                          refine t_kw hp108 hS 19 (.int .i64 ((s3_4.n : Int)) : Value) rfl (wanted_some rfl rfl rfl rfl) rfl rfl (by kernel_rfl) (fun _ _ => by kernel_rfl) fun hS => ?_
                          obtain ⟨t182_81, hx115, h⟩ := h
                          refine t_add ⟨20, [21], fun wx => (Instr.sliceAt 22 (.slice t44_10.a t44_10.n t44_10.c : Value) none (some (.int .i64 ((s3_4.n : Int)) : Value)) none).run Try.prog wx = .ok (.slice t182_81.a t182_81.n t182_81.c : Value) wx⟩ ?_
                          replace hS := SF_on (x := ⟨20, [21], fun wx => (Instr.sliceAt 22 (.slice t44_10.a t44_10.n t44_10.c : Value) none (some (.int .i64 ((s3_4.n : Int)) : Value)) none).run Try.prog wx = .ok (.slice t182_81.a t182_81.n t182_81.c : Value) wx⟩) hx115 hS
                          refine t_v (s := Instr.sliceAt 22 (.slice t44_10.a t44_10.n t44_10.c : Value) none (some (.int .i64 ((s3_4.n : Int)) : Value)) none) hp108 hS 20 (.slice t182_81.a t182_81.n t182_81.c : Value) rfl (wanted_some rfl rfl rfl rfl) rfl rfl (by kernel_rfl) (by kernel_rfl) (fun _ hw => (Sw.fact (List.Mem.head _) rfl hw)) fun hS => ?_
                          refine t_call 21 (by kernel_rfl) rfl (wanted_some rfl rfl rfl rfl) rfl rfl (by kernel_rfl) (h.mono ?_)
                          rintro _ w_83 ⟨t183_82, rfl, hx116, h⟩
                          refine ⟨_, rfl, (SF_off (by kernel_rfl) (by kernel_rfl) (SF_off (by kernel_rfl) (by kernel_rfl) (SF_on hx116 SF_nil))), fun hS => ?_⟩
                          obtain ⟨t184_84, hx117, h⟩ := h
                          refine t_add ⟨22, [], fun wx => (convert 22 9 (.slice t183_82.a t183_82.n t183_82.c : Value)).run Try.prog wx = .ok (.string t184_84 : Value) wx⟩ ?_
                          replace hS := SF_on (x := ⟨22, [], fun wx => (convert 22 9 (.slice t183_82.a t183_82.n t183_82.c : Value)).run Try.prog wx = .ok (.string t184_84 : Value) wx⟩) hx117 hS
                          refine t_v (s := convert 22 9 (.slice t183_82.a t183_82.n t183_82.c : Value)) hp108 hS 22 (.string t184_84 : Value) rfl (wanted_some rfl rfl rfl rfl) rfl rfl (by kernel_rfl) (by kernel_rfl) (fun _ hw => (Sw.fact (List.Mem.head _) rfl hw)) fun hS => ?_
                          refine t_kw hp108 hS 23 (.bool ((t174_79.toList == t184_84.toList)) : Value) rfl (wanted_some rfl rfl rfl rfl) rfl rfl (by kernel_rfl) (fun _ _ => by kernel_rfl) fun hS => ?_
                          refine t_kw hp108 hS 24 (.bool ((t174_79.toList == t184_84.toList)) : Value) rfl (wanted_none rfl) rfl rfl (by kernel_rfl) (fun _ _ => by kernel_rfl) fun hS => ?_
                          refine t_kw hp108 hS 25 (.bool ((t174_79.toList == t184_84.toList)) : Value) rfl (wanted_none rfl) rfl rfl (by kernel_rfl) (fun _ _ => by kernel_rfl) fun hS => ?_
                          refine t_done (by kernel_rfl) (hE108 _ _ ?_)
                          exact y_then (hjK107 _ ((t174_79.toList == t184_84.toList)) w_83 rfl h)
                        · replace h := h.2 (hb112)
                          refine t_frame (upd_id (i := 172) (v := .bool false) rfl (congrArg Value.bool hb112)) ?_
                          refine t_no hp108 hS 11 rfl rfl rfl rfl (.inl rfl) rfl rfl (by kernel_rfl) fun hS => ?_
                          refine t_no hp108 hS 12 rfl rfl rfl rfl (.inl rfl) rfl rfl (by kernel_rfl) fun hS => ?_
                          refine t_no hp108 hS 13 rfl rfl rfl rfl (.inl rfl) rfl rfl (by kernel_rfl) fun hS => ?_
                          refine t_no hp108 hS 14 rfl rfl rfl rfl (.inl rfl) rfl rfl (by kernel_rfl) fun hS => ?_
                          refine t_no hp108 hS 15 rfl rfl rfl rfl (.inl rfl) rfl rfl (by kernel_rfl) fun hS => ?_
                          refine t_no hp108 hS 16 rfl rfl rfl rfl (.inl rfl) rfl rfl (by kernel_rfl) fun hS => ?_
                          refine t_no hp108 hS 17 rfl rfl rfl rfl (.inl rfl) rfl rfl (by kernel_rfl) fun hS => ?_
                          refine t_no hp108 hS 18 rfl rfl rfl rfl (.inl rfl) rfl rfl (by kernel_rfl) fun hS => ?_
                          refine t_no hp108 hS 19 rfl rfl rfl rfl (.inl rfl) rfl rfl (by kernel_rfl) fun hS => ?_
                          refine t_no hp108 hS 20 rfl rfl rfl rfl (.inl rfl) rfl rfl (by kernel_rfl) fun hS => ?_
                          refine t_skip 21 (by kernel_rfl) rfl rfl rfl rfl (.inl rfl) rfl rfl SF_nil fun hS => ?_
                          refine t_no hp108 hS 22 rfl rfl rfl rfl (.inl rfl) rfl rfl (by kernel_rfl) fun hS => ?_
                          refine t_no hp108 hS 23 rfl rfl rfl rfl (.inl rfl) rfl rfl (by kernel_rfl) fun hS => ?_
                          refine t_kw hp108 hS 24 (.bool false : Value) rfl (wanted_none rfl) rfl rfl (by kernel_rfl) (fun _ _ => by kernel_rfl) fun hS => ?_
                          refine t_kw hp108 hS 25 (.bool false : Value) rfl (wanted_none rfl) rfl rfl (by kernel_rfl) (fun _ _ => by kernel_rfl) fun hS => ?_
                          refine t_done (by kernel_rfl) (hE108 _ _ ?_)
                          exact y_then (hjK107 _ false w_78 rfl h)
                      · replace h := h.2 (hb111)
                        refine t_frame (upd_id (i := 169) (v := .bool false) rfl (congrArg Value.bool hb111)) ?_
                        refine t_no hp108 hS 8 rfl rfl rfl rfl (.inl rfl) rfl rfl (by kernel_rfl) fun hS => ?_
                        refine t_kw hp108 hS 9 (.bool false : Value) rfl (wanted_none rfl) rfl rfl (by kernel_rfl) (fun _ _ => by kernel_rfl) fun hS => ?_
                        refine t_kw hp108 hS 10 (.bool false : Value) rfl (wanted_none rfl) rfl rfl (by kernel_rfl) (fun _ _ => by kernel_rfl) fun hS => ?_
                        refine t_no hp108 hS 11 rfl rfl rfl rfl (.inl rfl) rfl rfl (by kernel_rfl) fun hS => ?_
                        refine t_no hp108 hS 12 rfl rfl rfl rfl (.inl rfl) rfl rfl (by kernel_rfl) fun hS => ?_
                        refine t_no hp108 hS 13 rfl rfl rfl rfl (.inl rfl) rfl rfl (by kernel_rfl) fun hS => ?_
                        refine t_no hp108 hS 14 rfl rfl rfl rfl (.inl rfl) rfl rfl (by kernel_rfl) fun hS => ?_
                        refine t_no hp108 hS 15 rfl rfl rfl rfl (.inl rfl) rfl rfl (by kernel_rfl) fun hS => ?_
                        refine t_no hp108 hS 16 rfl rfl rfl rfl (.inl rfl) rfl rfl (by kernel_rfl) fun hS => ?_
                        refine t_no hp108 hS 17 rfl rfl rfl rfl (.inl rfl) rfl rfl (by kernel_rfl) fun hS => ?_
                        refine t_no hp108 hS 18 rfl rfl rfl rfl (.inl rfl) rfl rfl (by kernel_rfl) fun hS => ?_
                        refine t_no hp108 hS 19 rfl rfl rfl rfl (.inl rfl) rfl rfl (by kernel_rfl) fun hS => ?_
                        refine t_no hp108 hS 20 rfl rfl rfl rfl (.inl rfl) rfl rfl (by kernel_rfl) fun hS => ?_
                        refine t_skip 21 (by kernel_rfl) rfl rfl rfl rfl (.inl rfl) rfl rfl SF_nil fun hS => ?_
                        refine t_no hp108 hS 22 rfl rfl rfl rfl (.inl rfl) rfl rfl (by kernel_rfl) fun hS => ?_
                        refine t_no hp108 hS 23 rfl rfl rfl rfl (.inl rfl) rfl rfl (by kernel_rfl) fun hS => ?_
                        refine t_kw hp108 hS 24 (.bool false : Value) rfl (wanted_none rfl) rfl rfl (by kernel_rfl) (fun _ _ => by kernel_rfl) fun hS => ?_
                        refine t_kw hp108 hS 25 (.bool false : Value) rfl (wanted_none rfl) rfl rfl (by kernel_rfl) (fun _ _ => by kernel_rfl) fun hS => ?_
                        refine t_done (by kernel_rfl) (hE108 _ _ ?_)
                        exact y_then (hjK107 _ false w_78 rfl h)
                    · replace h := h.2 (hb110)
                      refine t_frame (upd_id (i := 166) (v := .bool false) rfl (congrArg Value.bool hb110)) ?_
                      refine t_no hp108 hS 5 rfl rfl rfl rfl (.inl rfl) rfl rfl (by kernel_rfl) fun hS => ?_
                      refine t_kw hp108 hS 6 (.bool false : Value) rfl (wanted_none rfl) rfl rfl (by kernel_rfl) (fun _ _ => by kernel_rfl) fun hS => ?_
                      refine t_kw hp108 hS 7 (.bool false : Value) rfl (wanted_none rfl) rfl rfl (by kernel_rfl) (fun _ _ => by kernel_rfl) fun hS => ?_
                      refine t_no hp108 hS 8 rfl rfl rfl rfl (.inl rfl) rfl rfl (by kernel_rfl) fun hS => ?_
                      refine t_kw hp108 hS 9 (.bool false : Value) rfl (wanted_none rfl) rfl rfl (by kernel_rfl) (fun _ _ => by kernel_rfl) fun hS => ?_
                      refine t_kw hp108 hS 10 (.bool false : Value) rfl (wanted_none rfl) rfl rfl (by kernel_rfl) (fun _ _ => by kernel_rfl) fun hS => ?_
                      refine t_no hp108 hS 11 rfl rfl rfl rfl (.inl rfl) rfl rfl (by kernel_rfl) fun hS => ?_
                      refine t_no hp108 hS 12 rfl rfl rfl rfl (.inl rfl) rfl rfl (by kernel_rfl) fun hS => ?_
                      refine t_no hp108 hS 13 rfl rfl rfl rfl (.inl rfl) rfl rfl (by kernel_rfl) fun hS => ?_
                      refine t_no hp108 hS 14 rfl rfl rfl rfl (.inl rfl) rfl rfl (by kernel_rfl) fun hS => ?_
                      refine t_no hp108 hS 15 rfl rfl rfl rfl (.inl rfl) rfl rfl (by kernel_rfl) fun hS => ?_
                      refine t_no hp108 hS 16 rfl rfl rfl rfl (.inl rfl) rfl rfl (by kernel_rfl) fun hS => ?_
                      refine t_no hp108 hS 17 rfl rfl rfl rfl (.inl rfl) rfl rfl (by kernel_rfl) fun hS => ?_
                      refine t_no hp108 hS 18 rfl rfl rfl rfl (.inl rfl) rfl rfl (by kernel_rfl) fun hS => ?_
                      refine t_no hp108 hS 19 rfl rfl rfl rfl (.inl rfl) rfl rfl (by kernel_rfl) fun hS => ?_
                      refine t_no hp108 hS 20 rfl rfl rfl rfl (.inl rfl) rfl rfl (by kernel_rfl) fun hS => ?_
                      refine t_skip 21 (by kernel_rfl) rfl rfl rfl rfl (.inl rfl) rfl rfl SF_nil fun hS => ?_
                      refine t_no hp108 hS 22 rfl rfl rfl rfl (.inl rfl) rfl rfl (by kernel_rfl) fun hS => ?_
                      refine t_no hp108 hS 23 rfl rfl rfl rfl (.inl rfl) rfl rfl (by kernel_rfl) fun hS => ?_
                      refine t_kw hp108 hS 24 (.bool false : Value) rfl (wanted_none rfl) rfl rfl (by kernel_rfl) (fun _ _ => by kernel_rfl) fun hS => ?_
                      refine t_kw hp108 hS 25 (.bool false : Value) rfl (wanted_none rfl) rfl rfl (by kernel_rfl) (fun _ _ => by kernel_rfl) fun hS => ?_
                      refine t_done (by kernel_rfl) (hE108 _ _ ?_)
                      exact y_then (hjK107 _ false w_78 rfl h)
                  · replace h := h.2 (hb109)
                    refine t_frame (upd_id (i := 163) (v := .bool false) rfl (congrArg Value.bool hb109)) ?_
                    refine t_no hp108 hS 2 rfl rfl rfl rfl (.inl rfl) rfl rfl (by kernel_rfl) fun hS => ?_
                    refine t_kw hp108 hS 3 (.bool false : Value) rfl (wanted_none rfl) rfl rfl (by kernel_rfl) (fun _ _ => by kernel_rfl) fun hS => ?_
                    refine t_kw hp108 hS 4 (.bool false : Value) rfl (wanted_none rfl) rfl rfl (by kernel_rfl) (fun _ _ => by kernel_rfl) fun hS => ?_
                    refine t_no hp108 hS 5 rfl rfl rfl rfl (.inl rfl) rfl rfl (by kernel_rfl) fun hS => ?_
                    refine t_kw hp108 hS 6 (.bool false : Value) rfl (wanted_none rfl) rfl rfl (by kernel_rfl) (fun _ _ => by kernel_rfl) fun hS => ?_
                    refine t_kw hp108 hS 7 (.bool false : Value) rfl (wanted_none rfl) rfl rfl (by kernel_rfl) (fun _ _ => by kernel_rfl) fun hS => ?_
                    refine t_no hp108 hS 8 rfl rfl rfl rfl (.inl rfl) rfl rfl (by kernel_rfl) fun hS => ?_
                    refine t_kw hp108 hS 9 (.bool false : Value) rfl (wanted_none rfl) rfl rfl (by kernel_rfl) (fun _ _ => by kernel_rfl) fun hS => ?_
                    refine t_kw hp108 hS 10 (.bool false : Value) rfl (wanted_none rfl) rfl rfl (by kernel_rfl) (fun _ _ => by kernel_rfl) fun hS => ?_
                    refine t_no hp108 hS 11 rfl rfl rfl rfl (.inl rfl) rfl rfl (by kernel_rfl) fun hS => ?_
                    refine t_no hp108 hS 12 rfl rfl rfl rfl (.inl rfl) rfl rfl (by kernel_rfl) fun hS => ?_
                    refine t_no hp108 hS 13 rfl rfl rfl rfl (.inl rfl) rfl rfl (by kernel_rfl) fun hS => ?_
                    refine t_no hp108 hS 14 rfl rfl rfl rfl (.inl rfl) rfl rfl (by kernel_rfl) fun hS => ?_
                    refine t_no hp108 hS 15 rfl rfl rfl rfl (.inl rfl) rfl rfl (by kernel_rfl) fun hS => ?_
                    refine t_no hp108 hS 16 rfl rfl rfl rfl (.inl rfl) rfl rfl (by kernel_rfl) fun hS => ?_
                    refine t_no hp108 hS 17 rfl rfl rfl rfl (.inl rfl) rfl rfl (by kernel_rfl) fun hS => ?_
                    refine t_no hp108 hS 18 rfl rfl rfl rfl (.inl rfl) rfl rfl (by kernel_rfl) fun hS => ?_
                    refine t_no hp108 hS 19 rfl rfl rfl rfl (.inl rfl) rfl rfl (by kernel_rfl) fun hS => ?_
                    refine t_no hp108 hS 20 rfl rfl rfl rfl (.inl rfl) rfl rfl (by kernel_rfl) fun hS => ?_
                    refine t_skip 21 (by kernel_rfl) rfl rfl rfl rfl (.inl rfl) rfl rfl SF_nil fun hS => ?_
                    refine t_no hp108 hS 22 rfl rfl rfl rfl (.inl rfl) rfl rfl (by kernel_rfl) fun hS => ?_
                    refine t_no hp108 hS 23 rfl rfl rfl rfl (.inl rfl) rfl rfl (by kernel_rfl) fun hS => ?_
                    refine t_kw hp108 hS 24 (.bool false : Value) rfl (wanted_none rfl) rfl rfl (by kernel_rfl) (fun _ _ => by kernel_rfl) fun hS => ?_
                    refine t_kw hp108 hS 25 (.bool false : Value) rfl (wanted_none rfl) rfl rfl (by kernel_rfl) (fun _ _ => by kernel_rfl) fun hS => ?_
                    refine t_done (by kernel_rfl) (hE108 _ _ ?_)
                    exact y_then (hjK107 _ false w_78 rfl h)
        obtain ⟨w_12, hwd15⟩ : ∃ wd : World, wd = w_11.drew := ⟨_, rfl⟩
        replace h := h _ hwd15
        refine t_region (wd := w_12) [] (by kernel_rfl) hwd15 SF_nil fun Q15 hE15 hp15 hS => ?_
        clear hwd15
        refine t_kw hp15 hS 0 (.slice b0_1.a b0_1.n b0_1.c : Value) rfl (wanted_none rfl) rfl rfl (by kernel_rfl) (fun _ _ => by kernel_rfl) fun hS => ?_
        refine t_kw hp15 hS 1 (.int .u64 n1_2 : Value) rfl (wanted_none rfl) rfl rfl (by kernel_rfl) (fun _ _ => by kernel_rfl) fun hS => ?_
        refine t_kw hp15 hS 4 (.slice b0_1.a b0_1.n b0_1.c : Value) rfl (wanted_none rfl) rfl rfl (by kernel_rfl) (fun _ _ => by kernel_rfl) fun hS => ?_
        refine t_kw hp15 hS 5 (.int .i64 m2_3 : Value) rfl (wanted_none rfl) rfl rfl (by kernel_rfl) (fun _ _ => by kernel_rfl) fun hS => ?_
        refine t_kw hp15 hS 8 (.slice b0_1.a b0_1.n b0_1.c : Value) rfl (wanted_none rfl) rfl rfl (by kernel_rfl) (fun _ _ => by kernel_rfl) fun hS => ?_
        refine t_kw hp15 hS 9 (.slice s3_4.a s3_4.n s3_4.c : Value) rfl (wanted_none rfl) rfl rfl (by kernel_rfl) (fun _ _ => by kernel_rfl) fun hS => ?_
        refine t_two 2 13 (by kernel_rfl) ?_ ?_
        · replace h := h.1
          refine o_call 2 rfl (wanted_none rfl) rfl rfl (by kernel_rfl) (h.mono ?_)
          rintro _ w_14 ⟨t47_13, rfl, h⟩
          refine ⟨_, rfl, SF_nil, fun hS => ?_⟩
          obtain ⟨t48_15, hx16, h⟩ := h
          refine t_add ⟨3, [14], fun wx => (convert 22 9 (.slice t47_13.a t47_13.n t47_13.c : Value)).run Try.prog wx = .ok (.string t48_15 : Value) wx⟩ ?_
          replace hS := SF_on (x := ⟨3, [14], fun wx => (convert 22 9 (.slice t47_13.a t47_13.n t47_13.c : Value)).run Try.prog wx = .ok (.string t48_15 : Value) wx⟩) hx16 hS
          refine t_v (s := convert 22 9 (.slice t47_13.a t47_13.n t47_13.c : Value)) hp15 hS 3 (.string t48_15 : Value) rfl (wanted_none rfl) rfl rfl (by kernel_rfl) (by kernel_rfl) (fun _ hw => (Sw.fact (List.Mem.head _) rfl hw)) fun hS => ?_
          refine t_two 6 13 (by kernel_rfl) ?_ ?_
          · replace h := h.1
            refine o_call 6 rfl (wanted_none rfl) rfl rfl (by kernel_rfl) (h.mono ?_)
            rintro _ w_17 ⟨t51_16, rfl, hx17, h⟩
            refine ⟨_, rfl, (SF_on hx17 SF_nil), fun hS => ?_⟩
            obtain ⟨t52_18, hx18, h⟩ := h
            refine t_add ⟨7, [14], fun wx => (convert 22 9 (.slice t51_16.a t51_16.n t51_16.c : Value)).run Try.prog wx = .ok (.string t52_18 : Value) wx⟩ ?_
            replace hS := SF_on (x := ⟨7, [14], fun wx => (convert 22 9 (.slice t51_16.a t51_16.n t51_16.c : Value)).run Try.prog wx = .ok (.string t52_18 : Value) wx⟩) hx18 hS
            refine t_v (s := convert 22 9 (.slice t51_16.a t51_16.n t51_16.c : Value)) hp15 hS 7 (.string t52_18 : Value) rfl (wanted_none rfl) rfl rfl (by kernel_rfl) (by kernel_rfl) (fun _ hw => (Sw.fact (List.Mem.head _) rfl hw)) fun hS => ?_
            refine t_two 10 13 (by kernel_rfl) ?_ ?_
            · replace h := h.1
              refine o_call 10 rfl (wanted_none rfl) rfl rfl (by kernel_rfl) (h.mono ?_)
              rintro _ w_20 ⟨t55_19, rfl, hx19, hx20, h⟩
              refine ⟨_, rfl, (SF_on hx19 (SF_on hx20 SF_nil)), fun hS => ?_⟩
              obtain ⟨t56_21, hx21, h⟩ := h
              refine t_add ⟨11, [14], fun wx => (convert 22 9 (.slice t55_19.a t55_19.n t55_19.c : Value)).run Try.prog wx = .ok (.string t56_21 : Value) wx⟩ ?_
              replace hS := SF_on (x := ⟨11, [14], fun wx => (convert 22 9 (.slice t55_19.a t55_19.n t55_19.c : Value)).run Try.prog wx = .ok (.string t56_21 : Value) wx⟩) hx21 hS
              refine t_v (s := convert 22 9 (.slice t55_19.a t55_19.n t55_19.c : Value)) hp15 hS 11 (.string t56_21 : Value) rfl (wanted_none rfl) rfl rfl (by kernel_rfl) (by kernel_rfl) (fun _ hw => (Sw.fact (List.Mem.head _) rfl hw)) fun hS => ?_
              refine t_kw hp15 hS 12 (.agg #[.string t48_15, .string t52_18, .string t56_21] : Value) rfl (wanted_none rfl) rfl rfl (by kernel_rfl) (fun _ _ => by kernel_rfl) fun hS => ?_
              replace h := h _ rfl
              obtain ⟨hx22, h⟩ := h
              obtain ⟨hx23, h⟩ := h
              obtain ⟨hx24, h⟩ := h
              refine t_kstep 13 (.pointer (some (⟨w_20.heap.size, 0, none⟩ : Addr)) : Value) (w_20.alloc (.cells #[.string ByteArray.empty, .string ByteArray.empty, .string ByteArray.empty] 33)) (by kernel_rfl) rfl (wanted_none rfl) rfl rfl (by kernel_rfl) (SF_on hx22 (SF_on hx23 (SF_on hx24 SF_nil))) fun hS => ?_
              generalize w_20.alloc (.cells #[.string ByteArray.empty, .string ByteArray.empty, .string ByteArray.empty] 33) = w_22 at hx22 hx23 hx24 hS h ⊢
              obtain ⟨hx25, h⟩ := h
              replace h := h _ rfl
              refine t_u 14 (s := Instr.storeAt 33 (.pointer (some (⟨w_20.heap.size, 0, none⟩ : Addr))) (.agg #[.string t48_15, .string t52_18, .string t56_21] : Value)) (by kernel_rfl) rfl (wanted_none rfl) rfl (by kernel_rfl) (rn_storecells (k := 3) (cs := [.string t48_15, .string t52_18, .string t56_21]) (by kernel_rfl) rfl (by simp [Value.oneCell']) hx25) (SF_off (by kernel_rfl) (by kernel_rfl) (SF_off (by kernel_rfl) (by kernel_rfl) (SF_off (by kernel_rfl) (by kernel_rfl) SF_nil))) fun hS => ?_
              generalize setCells w_22 (⟨w_20.heap.size, 0, none⟩ : Addr) 0 [.string t48_15, .string t52_18, .string t56_21] = w_23 at hS h ⊢
              refine t_done (by kernel_rfl) (hE15 _ _ ?_)
              exact y_then (hjK14 _ (⟨w_20.heap.size, 0, none⟩ : Addr) w_23 rfl rfl rfl rfl rfl rfl rfl rfl rfl rfl h)
            · replace h := h.2
              replace h := h _ rfl
              obtain ⟨hx122, h⟩ := h
              obtain ⟨hx123, h⟩ := h
              refine o_kstep 13 (.pointer (some (⟨w_17.heap.size, 0, none⟩ : Addr)) : Value) (w_17.alloc (.cells #[.string ByteArray.empty, .string ByteArray.empty, .string ByteArray.empty] 33)) rfl (wanted_none rfl) rfl rfl (by kernel_rfl) (SF_on hx122 (SF_on hx123 SF_nil)) fun hS => ?_
              generalize w_17.alloc (.cells #[.string ByteArray.empty, .string ByteArray.empty, .string ByteArray.empty] 33) = w_87 at hx122 hx123 hS h ⊢
              refine t_call 10 (by kernel_rfl) rfl (wanted_none rfl) rfl rfl (by kernel_rfl) (h.mono ?_)
              rintro _ w_89 ⟨t55_88, rfl, hx124, hx125, h⟩
              refine ⟨_, rfl, (SF_on hx124 (SF_on hx125 SF_nil)), fun hS => ?_⟩
              obtain ⟨t56_90, hx126, h⟩ := h
              refine t_add ⟨11, [14], fun wx => (convert 22 9 (.slice t55_88.a t55_88.n t55_88.c : Value)).run Try.prog wx = .ok (.string t56_90 : Value) wx⟩ ?_
              replace hS := SF_on (x := ⟨11, [14], fun wx => (convert 22 9 (.slice t55_88.a t55_88.n t55_88.c : Value)).run Try.prog wx = .ok (.string t56_90 : Value) wx⟩) hx126 hS
              refine t_v (s := convert 22 9 (.slice t55_88.a t55_88.n t55_88.c : Value)) hp15 hS 11 (.string t56_90 : Value) rfl (wanted_none rfl) rfl rfl (by kernel_rfl) (by kernel_rfl) (fun _ hw => (Sw.fact (List.Mem.head _) rfl hw)) fun hS => ?_
              refine t_kw hp15 hS 12 (.agg #[.string t48_15, .string t52_18, .string t56_90] : Value) rfl (wanted_none rfl) rfl rfl (by kernel_rfl) (fun _ _ => by kernel_rfl) fun hS => ?_
              obtain ⟨hx127, h⟩ := h
              replace h := h _ rfl
              refine t_u 14 (s := Instr.storeAt 33 (.pointer (some (⟨w_17.heap.size, 0, none⟩ : Addr))) (.agg #[.string t48_15, .string t52_18, .string t56_90] : Value)) (by kernel_rfl) rfl (wanted_none rfl) rfl (by kernel_rfl) (rn_storecells (k := 3) (cs := [.string t48_15, .string t52_18, .string t56_90]) (by kernel_rfl) rfl (by simp [Value.oneCell']) hx127) (SF_off (by kernel_rfl) (by kernel_rfl) (SF_off (by kernel_rfl) (by kernel_rfl) (SF_off (by kernel_rfl) (by kernel_rfl) SF_nil))) fun hS => ?_
              generalize setCells w_89 (⟨w_17.heap.size, 0, none⟩ : Addr) 0 [.string t48_15, .string t52_18, .string t56_90] = w_91 at hS h ⊢
              refine t_done (by kernel_rfl) (hE15 _ _ ?_)
              exact y_then (hjK14 _ (⟨w_17.heap.size, 0, none⟩ : Addr) w_91 rfl rfl rfl rfl rfl rfl rfl rfl rfl rfl h)
          · replace h := h.2
            replace h := h _ rfl
            obtain ⟨hx128, h⟩ := h
            refine o_kstep 13 (.pointer (some (⟨w_14.heap.size, 0, none⟩ : Addr)) : Value) (w_14.alloc (.cells #[.string ByteArray.empty, .string ByteArray.empty, .string ByteArray.empty] 33)) rfl (wanted_none rfl) rfl rfl (by kernel_rfl) (SF_on hx128 SF_nil) fun hS => ?_
            generalize w_14.alloc (.cells #[.string ByteArray.empty, .string ByteArray.empty, .string ByteArray.empty] 33) = w_92 at hx128 hS h ⊢
            refine t_call 6 (by kernel_rfl) rfl (wanted_none rfl) rfl rfl (by kernel_rfl) (h.mono ?_)
            rintro _ w_94 ⟨t51_93, rfl, hx129, h⟩
            refine ⟨_, rfl, (SF_on hx129 SF_nil), fun hS => ?_⟩
            obtain ⟨t52_95, hx130, h⟩ := h
            refine t_add ⟨7, [14], fun wx => (convert 22 9 (.slice t51_93.a t51_93.n t51_93.c : Value)).run Try.prog wx = .ok (.string t52_95 : Value) wx⟩ ?_
            replace hS := SF_on (x := ⟨7, [14], fun wx => (convert 22 9 (.slice t51_93.a t51_93.n t51_93.c : Value)).run Try.prog wx = .ok (.string t52_95 : Value) wx⟩) hx130 hS
            refine t_v (s := convert 22 9 (.slice t51_93.a t51_93.n t51_93.c : Value)) hp15 hS 7 (.string t52_95 : Value) rfl (wanted_none rfl) rfl rfl (by kernel_rfl) (by kernel_rfl) (fun _ hw => (Sw.fact (List.Mem.head _) rfl hw)) fun hS => ?_
            refine t_call 10 (by kernel_rfl) rfl (wanted_none rfl) rfl rfl (by kernel_rfl) (h.mono ?_)
            rintro _ w_97 ⟨t55_96, rfl, hx131, hx132, h⟩
            refine ⟨_, rfl, (SF_on hx131 (SF_on hx132 SF_nil)), fun hS => ?_⟩
            obtain ⟨t56_98, hx133, h⟩ := h
            refine t_add ⟨11, [14], fun wx => (convert 22 9 (.slice t55_96.a t55_96.n t55_96.c : Value)).run Try.prog wx = .ok (.string t56_98 : Value) wx⟩ ?_
            replace hS := SF_on (x := ⟨11, [14], fun wx => (convert 22 9 (.slice t55_96.a t55_96.n t55_96.c : Value)).run Try.prog wx = .ok (.string t56_98 : Value) wx⟩) hx133 hS
            refine t_v (s := convert 22 9 (.slice t55_96.a t55_96.n t55_96.c : Value)) hp15 hS 11 (.string t56_98 : Value) rfl (wanted_none rfl) rfl rfl (by kernel_rfl) (by kernel_rfl) (fun _ hw => (Sw.fact (List.Mem.head _) rfl hw)) fun hS => ?_
            refine t_kw hp15 hS 12 (.agg #[.string t48_15, .string t52_95, .string t56_98] : Value) rfl (wanted_none rfl) rfl rfl (by kernel_rfl) (fun _ _ => by kernel_rfl) fun hS => ?_
            obtain ⟨hx134, h⟩ := h
            replace h := h _ rfl
            refine t_u 14 (s := Instr.storeAt 33 (.pointer (some (⟨w_14.heap.size, 0, none⟩ : Addr))) (.agg #[.string t48_15, .string t52_95, .string t56_98] : Value)) (by kernel_rfl) rfl (wanted_none rfl) rfl (by kernel_rfl) (rn_storecells (k := 3) (cs := [.string t48_15, .string t52_95, .string t56_98]) (by kernel_rfl) rfl (by simp [Value.oneCell']) hx134) (SF_off (by kernel_rfl) (by kernel_rfl) (SF_off (by kernel_rfl) (by kernel_rfl) (SF_off (by kernel_rfl) (by kernel_rfl) SF_nil))) fun hS => ?_
            generalize setCells w_97 (⟨w_14.heap.size, 0, none⟩ : Addr) 0 [.string t48_15, .string t52_95, .string t56_98] = w_99 at hS h ⊢
            refine t_done (by kernel_rfl) (hE15 _ _ ?_)
            exact y_then (hjK14 _ (⟨w_14.heap.size, 0, none⟩ : Addr) w_99 rfl rfl rfl rfl rfl rfl rfl rfl rfl rfl h)
        · replace h := h.2
          replace h := h _ rfl
          refine o_kstep 13 (.pointer (some (⟨w_12.heap.size, 0, none⟩ : Addr)) : Value) (w_12.alloc (.cells #[.string ByteArray.empty, .string ByteArray.empty, .string ByteArray.empty] 33)) rfl (wanted_none rfl) rfl rfl (by kernel_rfl) SF_nil fun hS => ?_
          generalize w_12.alloc (.cells #[.string ByteArray.empty, .string ByteArray.empty, .string ByteArray.empty] 33) = w_100 at hS h ⊢
          refine t_call 2 (by kernel_rfl) rfl (wanted_none rfl) rfl rfl (by kernel_rfl) (h.mono ?_)
          rintro _ w_102 ⟨t47_101, rfl, h⟩
          refine ⟨_, rfl, SF_nil, fun hS => ?_⟩
          obtain ⟨t48_103, hx135, h⟩ := h
          refine t_add ⟨3, [14], fun wx => (convert 22 9 (.slice t47_101.a t47_101.n t47_101.c : Value)).run Try.prog wx = .ok (.string t48_103 : Value) wx⟩ ?_
          replace hS := SF_on (x := ⟨3, [14], fun wx => (convert 22 9 (.slice t47_101.a t47_101.n t47_101.c : Value)).run Try.prog wx = .ok (.string t48_103 : Value) wx⟩) hx135 hS
          refine t_v (s := convert 22 9 (.slice t47_101.a t47_101.n t47_101.c : Value)) hp15 hS 3 (.string t48_103 : Value) rfl (wanted_none rfl) rfl rfl (by kernel_rfl) (by kernel_rfl) (fun _ hw => (Sw.fact (List.Mem.head _) rfl hw)) fun hS => ?_
          refine t_call 6 (by kernel_rfl) rfl (wanted_none rfl) rfl rfl (by kernel_rfl) (h.mono ?_)
          rintro _ w_105 ⟨t51_104, rfl, hx136, h⟩
          refine ⟨_, rfl, (SF_on hx136 SF_nil), fun hS => ?_⟩
          obtain ⟨t52_106, hx137, h⟩ := h
          refine t_add ⟨7, [14], fun wx => (convert 22 9 (.slice t51_104.a t51_104.n t51_104.c : Value)).run Try.prog wx = .ok (.string t52_106 : Value) wx⟩ ?_
          replace hS := SF_on (x := ⟨7, [14], fun wx => (convert 22 9 (.slice t51_104.a t51_104.n t51_104.c : Value)).run Try.prog wx = .ok (.string t52_106 : Value) wx⟩) hx137 hS
          refine t_v (s := convert 22 9 (.slice t51_104.a t51_104.n t51_104.c : Value)) hp15 hS 7 (.string t52_106 : Value) rfl (wanted_none rfl) rfl rfl (by kernel_rfl) (by kernel_rfl) (fun _ hw => (Sw.fact (List.Mem.head _) rfl hw)) fun hS => ?_
          refine t_call 10 (by kernel_rfl) rfl (wanted_none rfl) rfl rfl (by kernel_rfl) (h.mono ?_)
          rintro _ w_108 ⟨t55_107, rfl, hx138, hx139, h⟩
          refine ⟨_, rfl, (SF_on hx138 (SF_on hx139 SF_nil)), fun hS => ?_⟩
          obtain ⟨t56_109, hx140, h⟩ := h
          refine t_add ⟨11, [14], fun wx => (convert 22 9 (.slice t55_107.a t55_107.n t55_107.c : Value)).run Try.prog wx = .ok (.string t56_109 : Value) wx⟩ ?_
          replace hS := SF_on (x := ⟨11, [14], fun wx => (convert 22 9 (.slice t55_107.a t55_107.n t55_107.c : Value)).run Try.prog wx = .ok (.string t56_109 : Value) wx⟩) hx140 hS
          refine t_v (s := convert 22 9 (.slice t55_107.a t55_107.n t55_107.c : Value)) hp15 hS 11 (.string t56_109 : Value) rfl (wanted_none rfl) rfl rfl (by kernel_rfl) (by kernel_rfl) (fun _ hw => (Sw.fact (List.Mem.head _) rfl hw)) fun hS => ?_
          refine t_kw hp15 hS 12 (.agg #[.string t48_103, .string t52_106, .string t56_109] : Value) rfl (wanted_none rfl) rfl rfl (by kernel_rfl) (fun _ _ => by kernel_rfl) fun hS => ?_
          obtain ⟨hx141, h⟩ := h
          replace h := h _ rfl
          refine t_u 14 (s := Instr.storeAt 33 (.pointer (some (⟨w_12.heap.size, 0, none⟩ : Addr))) (.agg #[.string t48_103, .string t52_106, .string t56_109] : Value)) (by kernel_rfl) rfl (wanted_none rfl) rfl (by kernel_rfl) (rn_storecells (k := 3) (cs := [.string t48_103, .string t52_106, .string t56_109]) (by kernel_rfl) rfl (by simp [Value.oneCell']) hx141) (SF_off (by kernel_rfl) (by kernel_rfl) (SF_off (by kernel_rfl) (by kernel_rfl) (SF_off (by kernel_rfl) (by kernel_rfl) SF_nil))) fun hS => ?_
          generalize setCells w_108 (⟨w_12.heap.size, 0, none⟩ : Addr) 0 [.string t48_103, .string t52_106, .string t56_109] = w_110 at hS h ⊢
          refine t_done (by kernel_rfl) (hE15 _ _ ?_)
          exact y_then (hjK14 _ (⟨w_12.heap.size, 0, none⟩ : Addr) w_110 rfl rfl rfl rfl rfl rfl rfl rfl rfl rfl h)

end Go.Proofs.Ythhcaaellhdkiaa
