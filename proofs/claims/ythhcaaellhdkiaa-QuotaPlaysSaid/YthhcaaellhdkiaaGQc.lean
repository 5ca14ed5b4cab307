/- Printed by gen.py (own program, wip/): for each Go function a predicate transformer and its soundness. -/
import Derived.Test.YthhcaaellhdkiaaProg
import Derived.Test.YthhcaaellhdkiaaST
namespace Go.Proofs.Ythhcaaellhdkiaa
open Go Go.RowKit Go.Proofs.Ythhcaaellhdkiaa.SX
set_option linter.unusedVariables false

def F51_j1 (K : Bool → World → Prop) (w : World) (w_16 : World) (w_17 : World) (t12_19 : Int) (t47_43 : Bool) (w_44 : World) : Prop :=
  ((t47_43 = true →
  ∀ (w_45 : World), w_45 = w_44.drew →
  ∃ (t51_46 : Option Addr), w_45.cell? (⟨w.heap.size, 0, none⟩ : Addr) = some (.pointer t51_46) ∧
  ∃ (t53_47 : ByteArray), w_45.cell? ((⟨w_16.heap.size, 0, none⟩ : Addr).add 2) = some (.string t53_47) ∧
  ∃ (t55_48 : Int), w_45.cell? ((⟨w_16.heap.size, 0, none⟩ : Addr).add 3) = some (.int .i64 t55_48) ∧
  ∃ (t57_49 : Int), w_45.cell? ((⟨w_16.heap.size, 0, none⟩ : Addr).add 4) = some (.int .i64 t57_49) ∧
  ∃ (t59_50 : Int), w_45.cell? ((⟨w_16.heap.size, 0, none⟩ : Addr).add 5) = some (.int .i64 t59_50) ∧
  ∃ (t62_51 : Option Addr), w_45.cell? ((⟨w.heap.size, 0, none⟩ : Addr).add 1) = some (.pointer t62_51) ∧
  ∃ (t64_52 : ByteArray), w_45.cell? ((⟨w_16.heap.size, 0, none⟩ : Addr).add 2) = some (.string t64_52) ∧
  ∃ (t66_53 : Int), w_45.cell? ((⟨w_16.heap.size, 0, none⟩ : Addr).add 3) = some (.int .i64 t66_53) ∧
  ∃ (t68_54 : Int), w_45.cell? ((⟨w_16.heap.size, 0, none⟩ : Addr).add 4) = some (.int .i64 t68_54) ∧
  ∃ (t70_55 : Int), w_45.cell? ((⟨w_16.heap.size, 0, none⟩ : Addr).add 5) = some (.int .i64 t70_55) ∧
  Calls Try.prog 31 #[.pointer t51_46, .string t53_47, .int .i64 t55_48, .int .i64 t57_49, .int .i64 t59_50] w_45 fun e w_57 => ∃ (t60_56 : Int), e = .returned (.int .i64 t60_56 : Value) ∧ w_57.cell? ((⟨w_16.heap.size, 0, none⟩ : Addr).add 5) = some (.int .i64 t70_55) ∧ w_57.cell? ((⟨w_16.heap.size, 0, none⟩ : Addr).add 4) = some (.int .i64 t68_54) ∧ w_57.cell? ((⟨w_16.heap.size, 0, none⟩ : Addr).add 3) = some (.int .i64 t66_53) ∧ w_57.cell? ((⟨w_16.heap.size, 0, none⟩ : Addr).add 2) = some (.string t64_52) ∧ w_57.cell? ((⟨w.heap.size, 0, none⟩ : Addr).add 1) = some (.pointer t62_51) ∧ 
  Calls Try.prog 66 #[.pointer t62_51, .string t64_52, .int .i64 t66_53, .int .i64 t68_54, .int .i64 t70_55] w_57 fun e w_59 => ∃ (t71_58 : Int), e = .returned (.int .i64 t71_58 : Value) ∧ 
  K ((t60_56 == t71_58)) w_59) ∧
  (t47_43 = false →
  ((t12_19 = 4 →
  ∀ (w_60 : World), w_60 = w_44.drew →
  ∃ (t76_61 : Option Addr), w_60.cell? (⟨w.heap.size, 0, none⟩ : Addr) = some (.pointer t76_61) ∧
  ∃ (t78_62 : ByteArray), w_60.cell? ((⟨w_16.heap.size, 0, none⟩ : Addr).add 2) = some (.string t78_62) ∧
  ∃ (t80_63 : Int), ∃ (t80_64 : Int), ∃ (t80_65 : Int), ∃ (t80_66 : Int), ∃ (t80_67 : Int), CellsAt w_60 ((⟨w_16.heap.size, 0, none⟩ : Addr).add 6) 0 [.int .i64 t80_63, .int .i64 t80_64, .int .i64 t80_65, .int .i64 t80_66, .int .i64 t80_67] ∧
  ∃ (t83_68 : Option Addr), w_60.cell? ((⟨w.heap.size, 0, none⟩ : Addr).add 1) = some (.pointer t83_68) ∧
  ∃ (t85_69 : ByteArray), w_60.cell? ((⟨w_16.heap.size, 0, none⟩ : Addr).add 2) = some (.string t85_69) ∧
  ∃ (t87_70 : Int), ∃ (t87_71 : Int), ∃ (t87_72 : Int), ∃ (t87_73 : Int), ∃ (t87_74 : Int), CellsAt w_60 ((⟨w_16.heap.size, 0, none⟩ : Addr).add 6) 0 [.int .i64 t87_70, .int .i64 t87_71, .int .i64 t87_72, .int .i64 t87_73, .int .i64 t87_74] ∧
  Calls Try.prog 48 #[.pointer t76_61, .string t78_62, .agg #[.int .i64 t80_63, .int .i64 t80_64, .int .i64 t80_65, .int .i64 t80_66, .int .i64 t80_67]] w_60 fun e w_76 => ∃ (t81_75 : Int), e = .returned (.int .i64 t81_75 : Value) ∧ CellsAt w_76 ((⟨w_16.heap.size, 0, none⟩ : Addr).add 6) 0 [.int .i64 t87_70, .int .i64 t87_71, .int .i64 t87_72, .int .i64 t87_73, .int .i64 t87_74] ∧ w_76.cell? ((⟨w_16.heap.size, 0, none⟩ : Addr).add 2) = some (.string t85_69) ∧ w_76.cell? ((⟨w.heap.size, 0, none⟩ : Addr).add 1) = some (.pointer t83_68) ∧ 
  Calls Try.prog 67 #[.pointer t83_68, .string t85_69, .agg #[.int .i64 t87_70, .int .i64 t87_71, .int .i64 t87_72, .int .i64 t87_73, .int .i64 t87_74]] w_76 fun e w_78 => ∃ (t88_77 : Int), e = .returned (.int .i64 t88_77 : Value) ∧ 
  K ((t81_75 == t88_77)) w_78) ∧
  (¬ t12_19 = 4 →
  ((t12_19 = 5 →
  ∃ (t94_79 : Option Addr), w_44.cell? (⟨w.heap.size, 0, none⟩ : Addr) = some (.pointer t94_79) ∧
  ∃ (t96_80 : ByteArray), w_44.cell? ((⟨w_16.heap.size, 0, none⟩ : Addr).add 2) = some (.string t96_80) ∧
  Calls Try.prog 49 #[.pointer t94_79, .string t96_80] w_44 fun e w_87 => ∃ (t97_81 : Int), ∃ (t97_82 : Int), ∃ (t97_83 : Int), ∃ (t97_84 : Int), ∃ (t97_85 : Int), ∃ (t97_86 : Bool), e = .returned (.tuple #[.agg #[.int .i64 t97_81, .int .i64 t97_82, .int .i64 t97_83, .int .i64 t97_84, .int .i64 t97_85], .bool t97_86] : Value) ∧
  ∀ (w_88 : World), w_88 = w_87.alloc (.cells #[.int .i64 0, .int .i64 0, .int .i64 0, .int .i64 0, .int .i64 0] 87) →
  HasCells w_88 (⟨w_87.heap.size, 0, none⟩ : Addr) 0 5 ∧ ∀ (w_89 : World), w_89 = setCells w_88 (⟨w_87.heap.size, 0, none⟩ : Addr) 0 [.int .i64 t97_81, .int .i64 t97_82, .int .i64 t97_83, .int .i64 t97_84, .int .i64 t97_85] →
  ∃ (t102_90 : Option Addr), w_89.cell? ((⟨w.heap.size, 0, none⟩ : Addr).add 1) = some (.pointer t102_90) ∧
  ∃ (t104_91 : ByteArray), w_89.cell? ((⟨w_16.heap.size, 0, none⟩ : Addr).add 2) = some (.string t104_91) ∧
  Calls Try.prog 68 #[.pointer t102_90, .string t104_91] w_89 fun e w_98 => ∃ (t105_92 : Int), ∃ (t105_93 : Int), ∃ (t105_94 : Int), ∃ (t105_95 : Int), ∃ (t105_96 : Int), ∃ (t105_97 : Bool), e = .returned (.tuple #[.agg #[.int .i64 t105_92, .int .i64 t105_93, .int .i64 t105_94, .int .i64 t105_95, .int .i64 t105_96], .bool t105_97] : Value) ∧
  ∀ (w_99 : World), w_99 = w_98.alloc (.cells #[.int .i64 0, .int .i64 0, .int .i64 0, .int .i64 0, .int .i64 0] 87) →
  HasCells w_99 (⟨w_98.heap.size, 0, none⟩ : Addr) 0 5 ∧ ∀ (w_100 : World), w_100 = setCells w_99 (⟨w_98.heap.size, 0, none⟩ : Addr) 0 [.int .i64 t105_92, .int .i64 t105_93, .int .i64 t105_94, .int .i64 t105_95, .int .i64 t105_96] →
  ∀ (w_101 : World), w_101 = w_100.drew →
  ∃ (t109_102 : Option Addr), w_101.cell? (⟨w_17.heap.size, 0, none⟩ : Addr) = some (.pointer t109_102) ∧
  ∃ (t111_103 : ByteArray), w_101.cell? ((⟨w_16.heap.size, 0, none⟩ : Addr).add 2) = some (.string t111_103) ∧
  ∃ (t112_104 : Int), ∃ (t112_105 : Int), ∃ (t112_106 : Int), ∃ (t112_107 : Int), ∃ (t112_108 : Int), CellsAt w_101 (⟨w_87.heap.size, 0, none⟩ : Addr) 0 [.int .i64 t112_104, .int .i64 t112_105, .int .i64 t112_106, .int .i64 t112_107, .int .i64 t112_108] ∧
  ∃ (t115_109 : Option Addr), w_101.cell? ((⟨w_17.heap.size, 0, none⟩ : Addr).add 1) = some (.pointer t115_109) ∧
  ∃ (t117_110 : ByteArray), w_101.cell? ((⟨w_16.heap.size, 0, none⟩ : Addr).add 2) = some (.string t117_110) ∧
  ∃ (t118_111 : Int), ∃ (t118_112 : Int), ∃ (t118_113 : Int), ∃ (t118_114 : Int), ∃ (t118_115 : Int), CellsAt w_101 (⟨w_98.heap.size, 0, none⟩ : Addr) 0 [.int .i64 t118_111, .int .i64 t118_112, .int .i64 t118_113, .int .i64 t118_114, .int .i64 t118_115] ∧
  Calls Try.prog 48 #[.pointer t109_102, .string t111_103, .agg #[.int .i64 t112_104, .int .i64 t112_105, .int .i64 t112_106, .int .i64 t112_107, .int .i64 t112_108]] w_101 fun e w_117 => ∃ (t113_116 : Int), e = .returned (.int .i64 t113_116 : Value) ∧ CellsAt w_117 (⟨w_98.heap.size, 0, none⟩ : Addr) 0 [.int .i64 t118_111, .int .i64 t118_112, .int .i64 t118_113, .int .i64 t118_114, .int .i64 t118_115] ∧ w_117.cell? ((⟨w_16.heap.size, 0, none⟩ : Addr).add 2) = some (.string t117_110) ∧ w_117.cell? ((⟨w_17.heap.size, 0, none⟩ : Addr).add 1) = some (.pointer t115_109) ∧ 
  Calls Try.prog 67 #[.pointer t115_109, .string t117_110, .agg #[.int .i64 t118_111, .int .i64 t118_112, .int .i64 t118_113, .int .i64 t118_114, .int .i64 t118_115]] w_117 fun e w_119 => ∃ (t119_118 : Int), e = .returned (.int .i64 t119_118 : Value) ∧ 
  K ((t113_116 == t119_118)) w_119) ∧
  (¬ t12_19 = 5 →
  K true w_44))))))
/-- (turnkey/turnkeylaw15.pair).step -/
def F51 (p0_1 : Option Addr) (p0_2 : Option Addr) (o1_3 : Int) (o1_4 : Int) (o1_5 : ByteArray) (o1_6 : Int) (o1_7 : Int) (o1_8 : Int) (o1_9 : Int) (o1_10 : Int) (o1_11 : Int) (o1_12 : Int) (o1_13 : Int) (other2_14 : Option Addr) (other2_15 : Option Addr) (K : Bool → World → Prop) (w : World) : Prop :=
  ∀ (w_16 : World), w_16 = w.alloc (.cells #[.pointer p0_1, .pointer p0_2] 98) →
  ∀ (w_17 : World), w_17 = w_16.alloc (.cells #[.int .i64 o1_3, .int .i64 o1_4, .string o1_5, .int .i64 o1_6, .int .i64 o1_7, .int .i64 o1_8, .int .i64 o1_9, .int .i64 o1_10, .int .i64 o1_11, .int .i64 o1_12, .int .i64 o1_13] 89) →
  ∀ (w_18 : World), w_18 = w_17.alloc (.cells #[.pointer other2_14, .pointer other2_15] 98) →
  ∃ (t12_19 : Int), w_18.cell? (⟨w_16.heap.size, 0, none⟩ : Addr) = some (.int .i64 t12_19) ∧
  ((t12_19 = 0 →
  ∀ (w_20 : World), w_20 = w_18.drew →
  ∃ (t16_21 : Option Addr), w_20.cell? (⟨w.heap.size, 0, none⟩ : Addr) = some (.pointer t16_21) ∧
  ∃ (t18_22 : ByteArray), w_20.cell? ((⟨w_16.heap.size, 0, none⟩ : Addr).add 2) = some (.string t18_22) ∧
  ∃ (t20_23 : Int), w_20.cell? ((⟨w_16.heap.size, 0, none⟩ : Addr).add 4) = some (.int .i64 t20_23) ∧
  ∃ (t22_24 : Int), w_20.cell? ((⟨w_16.heap.size, 0, none⟩ : Addr).add 5) = some (.int .i64 t22_24) ∧
  ∃ (t25_25 : Option Addr), w_20.cell? ((⟨w.heap.size, 0, none⟩ : Addr).add 1) = some (.pointer t25_25) ∧
  ∃ (t27_26 : ByteArray), w_20.cell? ((⟨w_16.heap.size, 0, none⟩ : Addr).add 2) = some (.string t27_26) ∧
  ∃ (t29_27 : Int), w_20.cell? ((⟨w_16.heap.size, 0, none⟩ : Addr).add 4) = some (.int .i64 t29_27) ∧
  ∃ (t31_28 : Int), w_20.cell? ((⟨w_16.heap.size, 0, none⟩ : Addr).add 5) = some (.int .i64 t31_28) ∧
  Calls Try.prog 29 #[.pointer t16_21, .string t18_22, .int .i64 t20_23, .int .i64 t22_24] w_20 fun e w_30 => ∃ (t23_29 : Int), e = .returned (.int .i64 t23_29 : Value) ∧ w_30.cell? ((⟨w_16.heap.size, 0, none⟩ : Addr).add 5) = some (.int .i64 t31_28) ∧ w_30.cell? ((⟨w_16.heap.size, 0, none⟩ : Addr).add 4) = some (.int .i64 t29_27) ∧ w_30.cell? ((⟨w_16.heap.size, 0, none⟩ : Addr).add 2) = some (.string t27_26) ∧ w_30.cell? ((⟨w.heap.size, 0, none⟩ : Addr).add 1) = some (.pointer t25_25) ∧ 
  Calls Try.prog 64 #[.pointer t25_25, .string t27_26, .int .i64 t29_27, .int .i64 t31_28] w_30 fun e w_32 => ∃ (t32_31 : Int), e = .returned (.int .i64 t32_31 : Value) ∧ 
  K ((t23_29 == t32_31)) w_32) ∧
  (¬ t12_19 = 0 →
  ((t12_19 = 1 →
  ∀ (w_33 : World), w_33 = w_18.drew →
  ∃ (t37_34 : Option Addr), w_33.cell? (⟨w.heap.size, 0, none⟩ : Addr) = some (.pointer t37_34) ∧
  ∃ (t39_35 : ByteArray), w_33.cell? ((⟨w_16.heap.size, 0, none⟩ : Addr).add 2) = some (.string t39_35) ∧
  ∃ (t42_36 : Option Addr), w_33.cell? ((⟨w.heap.size, 0, none⟩ : Addr).add 1) = some (.pointer t42_36) ∧
  ∃ (t44_37 : ByteArray), w_33.cell? ((⟨w_16.heap.size, 0, none⟩ : Addr).add 2) = some (.string t44_37) ∧
  Calls Try.prog 47 #[.pointer t37_34, .string t39_35] w_33 fun e w_39 => ∃ (t40_38 : Bool), e = .returned (.bool t40_38 : Value) ∧ w_39.cell? ((⟨w_16.heap.size, 0, none⟩ : Addr).add 2) = some (.string t44_37) ∧ w_39.cell? ((⟨w.heap.size, 0, none⟩ : Addr).add 1) = some (.pointer t42_36) ∧ 
  Calls Try.prog 65 #[.pointer t42_36, .string t44_37] w_39 fun e w_41 => ∃ (t45_40 : Bool), e = .returned (.bool t45_40 : Value) ∧ 
  ∃ (t46_42 : Bool), (do eqGuard .eql 4 (Operand.tmp 40) (Operand.tmp 45) (.bool t40_38 : Value) (.bool t45_40 : Value); binOp .eql 4 (.bool t40_38 : Value) (.bool t45_40 : Value)).run Try.prog w_41 = .ok (.bool t46_42 : Value) w_41 ∧
  K t46_42 w_41) ∧
  (¬ t12_19 = 1 →
  ((t12_19 = 2 →
  F51_j1 K w w_16 w_17 t12_19 ((t12_19 == 2)) w_18) ∧
  (¬ t12_19 = 2 →
  F51_j1 K w w_16 w_17 t12_19 ((t12_19 == 3)) w_18))))))
set_option maxHeartbeats 4000000 in
set_option maxRecDepth 20000 in
theorem F51_sound (p0_1 : Option Addr) (p0_2 : Option Addr) (o1_3 : Int) (o1_4 : Int) (o1_5 : ByteArray) (o1_6 : Int) (o1_7 : Int) (o1_8 : Int) (o1_9 : Int) (o1_10 : Int) (o1_11 : Int) (o1_12 : Int) (o1_13 : Int) (other2_14 : Option Addr) (other2_15 : Option Addr) (K : Bool → World → Prop) (w : World) (h : F51 p0_1 p0_2 o1_3 o1_4 o1_5 o1_6 o1_7 o1_8 o1_9 o1_10 o1_11 o1_12 o1_13 other2_14 other2_15 K w) :
    Calls Try.prog 51 #[.agg #[.pointer p0_1, .pointer p0_2], .agg #[.int .i64 o1_3, .int .i64 o1_4, .string o1_5, .int .i64 o1_6, .int .i64 o1_7, .int .i64 o1_8, .int .i64 o1_9, .int .i64 o1_10, .int .i64 o1_11, .int .i64 o1_12, .int .i64 o1_13], .agg #[.pointer other2_14, .pointer other2_15]] w (fun e w1 => ∃ (r0 : Bool), e = .returned (.bool r0 : Value) ∧ K r0 w1) := by
  unfold F51 at h
  refine y_enter (n := 121) (args := [.agg #[.pointer p0_1, .pointer p0_2], .agg #[.int .i64 o1_3, .int .i64 o1_4, .string o1_5, .int .i64 o1_6, .int .i64 o1_7, .int .i64 o1_8, .int .i64 o1_9, .int .i64 o1_10, .int .i64 o1_11, .int .i64 o1_12, .int .i64 o1_13], .agg #[.pointer other2_14, .pointer other2_15]]) Try.func51 rfl rfl rfl fun Q0 hQ0 => ?_
  refine y_seq fun K1 hK1 => ?_
  refine y_region ?_
  refine y_k (.pointer (some (⟨w.heap.size, 0, none⟩ : Addr)) : Value) (w.alloc (.cells #[.pointer p0_1, .pointer p0_2] 98)) rfl rfl rfl (by kernel_rfl) ?_
  replace h := h _ rfl
  generalize w.alloc (.cells #[.pointer p0_1, .pointer p0_2] 98) = w_16 at h ⊢
  refine y_k (.pointer (some (⟨w_16.heap.size, 0, none⟩ : Addr)) : Value) (w_16.alloc (.cells #[.int .i64 o1_3, .int .i64 o1_4, .string o1_5, .int .i64 o1_6, .int .i64 o1_7, .int .i64 o1_8, .int .i64 o1_9, .int .i64 o1_10, .int .i64 o1_11, .int .i64 o1_12, .int .i64 o1_13] 89)) rfl rfl rfl (by kernel_rfl) ?_
  replace h := h _ rfl
  generalize w_16.alloc (.cells #[.int .i64 o1_3, .int .i64 o1_4, .string o1_5, .int .i64 o1_6, .int .i64 o1_7, .int .i64 o1_8, .int .i64 o1_9, .int .i64 o1_10, .int .i64 o1_11, .int .i64 o1_12, .int .i64 o1_13] 89) = w_17 at h ⊢
  refine y_k (.pointer (some (⟨w_17.heap.size, 0, none⟩ : Addr)) : Value) (w_17.alloc (.cells #[.pointer other2_14, .pointer other2_15] 98)) rfl rfl rfl (by kernel_rfl) ?_
  replace h := h _ rfl
  generalize w_17.alloc (.cells #[.pointer other2_14, .pointer other2_15] 98) = w_18 at h ⊢
  refine y_k (.bool false : Value) w_18 rfl rfl rfl (by kernel_rfl) ?_
  refine y_nil ?_
  refine y_then (hK1 _ _ ?_)
  refine y_seq fun K2 hK2 => ?_
  refine y_seq fun K3 hK3 => ?_
  refine y_region ?_
  refine y_k (.pointer (some (⟨w_16.heap.size, 0, none⟩ : Addr)) : Value) w_18 rfl rfl rfl (by kernel_rfl) ?_
  obtain ⟨t12_19, hx4, h⟩ := h
  refine y_v (s := Instr.loadAt 3 (.pointer (some (⟨w_16.heap.size, 0, none⟩ : Addr)))) rfl rfl rfl (by kernel_rfl) (rn_load (by kernel_rfl) hx4) ?_
  refine y_nil ?_
  refine y_then (hK3 _ _ ?_)
  refine y_block ?_
  refine y_seq fun K6 hK6 => ?_
  refine y_region ?_
  refine y_k (.bool ((t12_19 == 0)) : Value) w_18 rfl rfl rfl (by kernel_rfl) ?_
  refine y_k (.bool ((t12_19 == 0)) : Value) w_18 rfl rfl rfl (by kernel_rfl) ?_
  refine y_nil ?_
  refine y_then (hK6 _ _ ?_)
  refine y_cond ((t12_19 == 0)) rfl rfl (fun hb88 => ?_) (fun hb88 => ?_)
  · replace h := h.1 (eq_of_beq hb88)
    refine y_seq fun K7 hK7 => ?_
    obtain ⟨w_20, hwd8⟩ : ∃ wd : World, wd = w_18.drew := ⟨_, rfl⟩
    replace h := h _ hwd8
    refine t_region (wd := w_20) [] (by kernel_rfl) hwd8 SF_nil fun Q8 hE8 hp8 hS => ?_
    clear hwd8
    refine t_kw hp8 hS 0 (.pointer (some (⟨w.heap.size, 0, none⟩ : Addr)) : Value) rfl (wanted_none rfl) rfl rfl (by kernel_rfl) (fun _ _ => by kernel_rfl) fun hS => ?_
    obtain ⟨t16_21, hx9, h⟩ := h
    refine t_add ⟨1, [8, 17], fun wx => wx.cell? (⟨w.heap.size, 0, none⟩ : Addr) = some (.pointer t16_21)⟩ ?_
    replace hS := SF_on (x := ⟨1, [8, 17], fun wx => wx.cell? (⟨w.heap.size, 0, none⟩ : Addr) = some (.pointer t16_21)⟩) hx9 hS
    refine t_v (s := Instr.loadAt 48 (.pointer (some (⟨w.heap.size, 0, none⟩ : Addr)))) hp8 hS 1 (.pointer t16_21 : Value) rfl (wanted_none rfl) rfl rfl (by kernel_rfl) (by kernel_rfl) (fun _ hw => rn_load (by kernel_rfl) (Sw.fact (List.Mem.head _) rfl hw)) fun hS => ?_
    refine t_kw hp8 hS 2 (.pointer (some ((⟨w_16.heap.size, 0, none⟩ : Addr).add 2)) : Value) rfl (wanted_none rfl) rfl rfl (by kernel_rfl) (fun _ _ => by kernel_rfl) fun hS => ?_
    obtain ⟨t18_22, hx10, h⟩ := h
    refine t_add ⟨3, [8, 17], fun wx => wx.cell? ((⟨w_16.heap.size, 0, none⟩ : Addr).add 2) = some (.string t18_22)⟩ ?_
    replace hS := SF_on (x := ⟨3, [8, 17], fun wx => wx.cell? ((⟨w_16.heap.size, 0, none⟩ : Addr).add 2) = some (.string t18_22)⟩) hx10 hS
    refine t_v (s := Instr.loadAt 9 (.pointer (some ((⟨w_16.heap.size, 0, none⟩ : Addr).add 2)))) hp8 hS 3 (.string t18_22 : Value) rfl (wanted_none rfl) rfl rfl (by kernel_rfl) (by kernel_rfl) (fun _ hw => rn_load (by kernel_rfl) (Sw.fact (List.Mem.head _) rfl hw)) fun hS => ?_
    refine t_kw hp8 hS 4 (.pointer (some ((⟨w_16.heap.size, 0, none⟩ : Addr).add 4)) : Value) rfl (wanted_none rfl) rfl rfl (by kernel_rfl) (fun _ _ => by kernel_rfl) fun hS => ?_
    obtain ⟨t20_23, hx11, h⟩ := h
    refine t_add ⟨5, [8, 17], fun wx => wx.cell? ((⟨w_16.heap.size, 0, none⟩ : Addr).add 4) = some (.int .i64 t20_23)⟩ ?_
    replace hS := SF_on (x := ⟨5, [8, 17], fun wx => wx.cell? ((⟨w_16.heap.size, 0, none⟩ : Addr).add 4) = some (.int .i64 t20_23)⟩) hx11 hS
    refine t_v (s := Instr.loadAt 3 (.pointer (some ((⟨w_16.heap.size, 0, none⟩ : Addr).add 4)))) hp8 hS 5 (.int .i64 t20_23 : Value) rfl (wanted_none rfl) rfl rfl (by kernel_rfl) (by kernel_rfl) (fun _ hw => rn_load (by kernel_rfl) (Sw.fact (List.Mem.head _) rfl hw)) fun hS => ?_
    refine t_kw hp8 hS 6 (.pointer (some ((⟨w_16.heap.size, 0, none⟩ : Addr).add 5)) : Value) rfl (wanted_none rfl) rfl rfl (by kernel_rfl) (fun _ _ => by kernel_rfl) fun hS => ?_
    obtain ⟨t22_24, hx12, h⟩ := h
    refine t_add ⟨7, [8, 17], fun wx => wx.cell? ((⟨w_16.heap.size, 0, none⟩ : Addr).add 5) = some (.int .i64 t22_24)⟩ ?_
    replace hS := SF_on (x := ⟨7, [8, 17], fun wx => wx.cell? ((⟨w_16.heap.size, 0, none⟩ : Addr).add 5) = some (.int .i64 t22_24)⟩) hx12 hS
    refine t_v (s := Instr.loadAt 3 (.pointer (some ((⟨w_16.heap.size, 0, none⟩ : Addr).add 5)))) hp8 hS 7 (.int .i64 t22_24 : Value) rfl (wanted_none rfl) rfl rfl (by kernel_rfl) (by kernel_rfl) (fun _ hw => rn_load (by kernel_rfl) (Sw.fact (List.Mem.head _) rfl hw)) fun hS => ?_
    refine t_kw hp8 hS 9 (.pointer (some ((⟨w.heap.size, 0, none⟩ : Addr).add 1)) : Value) rfl (wanted_none rfl) rfl rfl (by kernel_rfl) (fun _ _ => by kernel_rfl) fun hS => ?_
    obtain ⟨t25_25, hx13, h⟩ := h
    refine t_add ⟨10, [17], fun wx => wx.cell? ((⟨w.heap.size, 0, none⟩ : Addr).add 1) = some (.pointer t25_25)⟩ ?_
    replace hS := SF_on (x := ⟨10, [17], fun wx => wx.cell? ((⟨w.heap.size, 0, none⟩ : Addr).add 1) = some (.pointer t25_25)⟩) hx13 hS
    refine t_v (s := Instr.loadAt 95 (.pointer (some ((⟨w.heap.size, 0, none⟩ : Addr).add 1)))) hp8 hS 10 (.pointer t25_25 : Value) rfl (wanted_none rfl) rfl rfl (by kernel_rfl) (by kernel_rfl) (fun _ hw => rn_load (by kernel_rfl) (Sw.fact (List.Mem.head _) rfl hw)) fun hS => ?_
    refine t_kw hp8 hS 11 (.pointer (some ((⟨w_16.heap.size, 0, none⟩ : Addr).add 2)) : Value) rfl (wanted_none rfl) rfl rfl (by kernel_rfl) (fun _ _ => by kernel_rfl) fun hS => ?_
    obtain ⟨t27_26, hx14, h⟩ := h
    refine t_add ⟨12, [17], fun wx => wx.cell? ((⟨w_16.heap.size, 0, none⟩ : Addr).add 2) = some (.string t27_26)⟩ ?_
    replace hS := SF_on (x := ⟨12, [17], fun wx => wx.cell? ((⟨w_16.heap.size, 0, none⟩ : Addr).add 2) = some (.string t27_26)⟩) hx14 hS
    refine t_v (s := Instr.loadAt 9 (.pointer (some ((⟨w_16.heap.size, 0, none⟩ : Addr).add 2)))) hp8 hS 12 (.string t27_26 : Value) rfl (wanted_none rfl) rfl rfl (by kernel_rfl) (by kernel_rfl) (fun _ hw => rn_load (by kernel_rfl) (Sw.fact (List.Mem.head _) rfl hw)) fun hS => ?_
    refine t_kw hp8 hS 13 (.pointer (some ((⟨w_16.heap.size, 0, none⟩ : Addr).add 4)) : Value) rfl (wanted_none rfl) rfl rfl (by kernel_rfl) (fun _ _ => by kernel_rfl) fun hS => ?_
    obtain ⟨t29_27, hx15, h⟩ := h
    refine t_add ⟨14, [17], fun wx => wx.cell? ((⟨w_16.heap.size, 0, none⟩ : Addr).add 4) = some (.int .i64 t29_27)⟩ ?_
    replace hS := SF_on (x := ⟨14, [17], fun wx => wx.cell? ((⟨w_16.heap.size, 0, none⟩ : Addr).add 4) = some (.int .i64 t29_27)⟩) hx15 hS
    refine t_v (s := Instr.loadAt 3 (.pointer (some ((⟨w_16.heap.size, 0, none⟩ : Addr).add 4)))) hp8 hS 14 (.int .i64 t29_27 : Value) rfl (wanted_none rfl) rfl rfl (by kernel_rfl) (by kernel_rfl) (fun _ hw => rn_load (by kernel_rfl) (Sw.fact (List.Mem.head _) rfl hw)) fun hS => ?_
    refine t_kw hp8 hS 15 (.pointer (some ((⟨w_16.heap.size, 0, none⟩ : Addr).add 5)) : Value) rfl (wanted_none rfl) rfl rfl (by kernel_rfl) (fun _ _ => by kernel_rfl) fun hS => ?_
    obtain ⟨t31_28, hx16, h⟩ := h
    refine t_add ⟨16, [17], fun wx => wx.cell? ((⟨w_16.heap.size, 0, none⟩ : Addr).add 5) = some (.int .i64 t31_28)⟩ ?_
    replace hS := SF_on (x := ⟨16, [17], fun wx => wx.cell? ((⟨w_16.heap.size, 0, none⟩ : Addr).add 5) = some (.int .i64 t31_28)⟩) hx16 hS
    refine t_v (s := Instr.loadAt 3 (.pointer (some ((⟨w_16.heap.size, 0, none⟩ : Addr).add 5)))) hp8 hS 16 (.int .i64 t31_28 : Value) rfl (wanted_none rfl) rfl rfl (by kernel_rfl) (by kernel_rfl) (fun _ hw => rn_load (by kernel_rfl) (Sw.fact (List.Mem.head _) rfl hw)) fun hS => ?_
    refine t_call 8 (by kernel_rfl) rfl (wanted_none rfl) rfl rfl (by kernel_rfl) (h.mono ?_)
    rintro _ w_30 ⟨t23_29, rfl, hx17, hx18, hx19, hx20, h⟩
    refine ⟨_, rfl, (SF_on hx17 (SF_on hx18 (SF_on hx19 (SF_on hx20 (SF_off (by kernel_rfl) (by kernel_rfl) (SF_off (by kernel_rfl) (by kernel_rfl) (SF_off (by kernel_rfl) (by kernel_rfl) (SF_off (by kernel_rfl) (by kernel_rfl) SF_nil)))))))), fun hS => ?_⟩
    refine t_call 17 (by kernel_rfl) rfl (wanted_none rfl) rfl rfl (by kernel_rfl) (h.mono ?_)
    rintro _ w_32 ⟨t32_31, rfl, h⟩
    refine ⟨_, rfl, (SF_off (by kernel_rfl) (by kernel_rfl) (SF_off (by kernel_rfl) (by kernel_rfl) (SF_off (by kernel_rfl) (by kernel_rfl) (SF_off (by kernel_rfl) (by kernel_rfl) (SF_off (by kernel_rfl) (by kernel_rfl) (SF_off (by kernel_rfl) (by kernel_rfl) (SF_off (by kernel_rfl) (by kernel_rfl) (SF_off (by kernel_rfl) (by kernel_rfl) SF_nil)))))))), fun hS => ?_⟩
    refine t_kw hp8 hS 18 (.bool ((t23_29 == t32_31)) : Value) rfl (wanted_none rfl) rfl rfl (by kernel_rfl) (fun _ _ => by kernel_rfl) fun hS => ?_
    refine t_kw hp8 hS 19 (.bool ((t23_29 == t32_31)) : Value) rfl (wanted_none rfl) rfl rfl (by kernel_rfl) (fun _ _ => by kernel_rfl) fun hS => ?_
    refine t_done (by kernel_rfl) (hE8 _ _ ?_)
    refine y_then (hK7 _ _ ?_)
    refine y_ret ?_
    repeat (first | refine e_then_r ?_ | refine e_block_r ?_)
    exact (hQ0 _ _ _ (res1 (v := (.bool ((t23_29 == t32_31)) : Value)) rfl rfl rfl) ⟨_, rfl, h⟩).1
  · replace h := h.2 (beq_eq_false_iff_ne.mp hb88)
    refine y_seq fun K21 hK21 => ?_
    refine y_region ?_
    refine y_k (.bool ((t12_19 == 1)) : Value) w_18 rfl rfl rfl (by kernel_rfl) ?_
    refine y_k (.bool ((t12_19 == 1)) : Value) w_18 rfl rfl rfl (by kernel_rfl) ?_
    refine y_nil ?_
    refine y_then (hK21 _ _ ?_)
    refine y_cond ((t12_19 == 1)) rfl rfl (fun hb87 => ?_) (fun hb87 => ?_)
    · replace h := h.1 (eq_of_beq hb87)
      refine y_seq fun K22 hK22 => ?_
      obtain ⟨w_33, hwd23⟩ : ∃ wd : World, wd = w_18.drew := ⟨_, rfl⟩
      replace h := h _ hwd23
      refine t_region (wd := w_33) [] (by kernel_rfl) hwd23 SF_nil fun Q23 hE23 hp23 hS => ?_
      clear hwd23
      refine t_kw hp23 hS 0 (.pointer (some (⟨w.heap.size, 0, none⟩ : Addr)) : Value) rfl (wanted_none rfl) rfl rfl (by kernel_rfl) (fun _ _ => by kernel_rfl) fun hS => ?_
      obtain ⟨t37_34, hx24, h⟩ := h
      refine t_add ⟨1, [4, 9], fun wx => wx.cell? (⟨w.heap.size, 0, none⟩ : Addr) = some (.pointer t37_34)⟩ ?_
      replace hS := SF_on (x := ⟨1, [4, 9], fun wx => wx.cell? (⟨w.heap.size, 0, none⟩ : Addr) = some (.pointer t37_34)⟩) hx24 hS
      refine t_v (s := Instr.loadAt 48 (.pointer (some (⟨w.heap.size, 0, none⟩ : Addr)))) hp23 hS 1 (.pointer t37_34 : Value) rfl (wanted_none rfl) rfl rfl (by kernel_rfl) (by kernel_rfl) (fun _ hw => rn_load (by kernel_rfl) (Sw.fact (List.Mem.head _) rfl hw)) fun hS => ?_
      refine t_kw hp23 hS 2 (.pointer (some ((⟨w_16.heap.size, 0, none⟩ : Addr).add 2)) : Value) rfl (wanted_none rfl) rfl rfl (by kernel_rfl) (fun _ _ => by kernel_rfl) fun hS => ?_
      obtain ⟨t39_35, hx25, h⟩ := h
      refine t_add ⟨3, [4, 9], fun wx => wx.cell? ((⟨w_16.heap.size, 0, none⟩ : Addr).add 2) = some (.string t39_35)⟩ ?_
      replace hS := SF_on (x := ⟨3, [4, 9], fun wx => wx.cell? ((⟨w_16.heap.size, 0, none⟩ : Addr).add 2) = some (.string t39_35)⟩) hx25 hS
      refine t_v (s := Instr.loadAt 9 (.pointer (some ((⟨w_16.heap.size, 0, none⟩ : Addr).add 2)))) hp23 hS 3 (.string t39_35 : Value) rfl (wanted_none rfl) rfl rfl (by kernel_rfl) (by kernel_rfl) (fun _ hw => rn_load (by kernel_rfl) (Sw.fact (List.Mem.head _) rfl hw)) fun hS => ?_
      refine t_kw hp23 hS 5 (.pointer (some ((⟨w.heap.size, 0, none⟩ : Addr).add 1)) : Value) rfl (wanted_none rfl) rfl rfl (by kernel_rfl) (fun _ _ => by kernel_rfl) fun hS => ?_
      obtain ⟨t42_36, hx26, h⟩ := h
      refine t_add ⟨6, [9], fun wx => wx.cell? ((⟨w.heap.size, 0, none⟩ : Addr).add 1) = some (.pointer t42_36)⟩ ?_
      replace hS := SF_on (x := ⟨6, [9], fun wx => wx.cell? ((⟨w.heap.size, 0, none⟩ : Addr).add 1) = some (.pointer t42_36)⟩) hx26 hS
      refine t_v (s := Instr.loadAt 95 (.pointer (some ((⟨w.heap.size, 0, none⟩ : Addr).add 1)))) hp23 hS 6 (.pointer t42_36 : Value) rfl (wanted_none rfl) rfl rfl (by kernel_rfl) (by kernel_rfl) (fun _ hw => rn_load (by kernel_rfl) (Sw.fact (List.Mem.head _) rfl hw)) fun hS => ?_
      refine t_kw hp23 hS 7 (.pointer (some ((⟨w_16.heap.size, 0, none⟩ : Addr).add 2)) : Value) rfl (wanted_none rfl) rfl rfl (by kernel_rfl) (fun _ _ => by kernel_rfl) fun hS => ?_
      obtain ⟨t44_37, hx27, h⟩ := h
      refine t_add ⟨8, [9], fun wx => wx.cell? ((⟨w_16.heap.size, 0, none⟩ : Addr).add 2) = some (.string t44_37)⟩ ?_
      replace hS := SF_on (x := ⟨8, [9], fun wx => wx.cell? ((⟨w_16.heap.size, 0, none⟩ : Addr).add 2) = some (.string t44_37)⟩) hx27 hS
      refine t_v (s := Instr.loadAt 9 (.pointer (some ((⟨w_16.heap.size, 0, none⟩ : Addr).add 2)))) hp23 hS 8 (.string t44_37 : Value) rfl (wanted_none rfl) rfl rfl (by kernel_rfl) (by kernel_rfl) (fun _ hw => rn_load (by kernel_rfl) (Sw.fact (List.Mem.head _) rfl hw)) fun hS => ?_
      refine t_call 4 (by kernel_rfl) rfl (wanted_none rfl) rfl rfl (by kernel_rfl) (h.mono ?_)
      rintro _ w_39 ⟨t40_38, rfl, hx28, hx29, h⟩
      refine ⟨_, rfl, (SF_on hx28 (SF_on hx29 (SF_off (by kernel_rfl) (by kernel_rfl) (SF_off (by kernel_rfl) (by kernel_rfl) SF_nil)))), fun hS => ?_⟩
      refine t_call 9 (by kernel_rfl) rfl (wanted_none rfl) rfl rfl (by kernel_rfl) (h.mono ?_)
      rintro _ w_41 ⟨t45_40, rfl, h⟩
      refine ⟨_, rfl, (SF_off (by kernel_rfl) (by kernel_rfl) (SF_off (by kernel_rfl) (by kernel_rfl) (SF_off (by kernel_rfl) (by kernel_rfl) (SF_off (by kernel_rfl) (by kernel_rfl) SF_nil)))), fun hS => ?_⟩
      obtain ⟨t46_42, hx30, h⟩ := h
      refine t_add ⟨10, [], fun wx => (do eqGuard .eql 4 (Operand.tmp 40) (Operand.tmp 45) (.bool t40_38 : Value) (.bool t45_40 : Value); binOp .eql 4 (.bool t40_38 : Value) (.bool t45_40 : Value)).run Try.prog wx = .ok (.bool t46_42 : Value) wx⟩ ?_
      replace hS := SF_on (x := ⟨10, [], fun wx => (do eqGuard .eql 4 (Operand.tmp 40) (Operand.tmp 45) (.bool t40_38 : Value) (.bool t45_40 : Value); binOp .eql 4 (.bool t40_38 : Value) (.bool t45_40 : Value)).run Try.prog wx = .ok (.bool t46_42 : Value) wx⟩) hx30 hS
      refine t_v (s := do eqGuard .eql 4 (Operand.tmp 40) (Operand.tmp 45) (.bool t40_38 : Value) (.bool t45_40 : Value); binOp .eql 4 (.bool t40_38 : Value) (.bool t45_40 : Value)) hp23 hS 10 (.bool t46_42 : Value) rfl (wanted_none rfl) rfl rfl (by kernel_rfl) (by kernel_rfl) (fun _ hw => (Sw.fact (List.Mem.head _) rfl hw)) fun hS => ?_
      refine t_kw hp23 hS 11 (.bool t46_42 : Value) rfl (wanted_none rfl) rfl rfl (by kernel_rfl) (fun _ _ => by kernel_rfl) fun hS => ?_
      refine t_done (by kernel_rfl) (hE23 _ _ ?_)
      refine y_then (hK22 _ _ ?_)
      refine y_ret ?_
      repeat (first | refine e_then_r ?_ | refine e_block_r ?_)
      exact (hQ0 _ _ _ (res1 (v := (.bool t46_42 : Value)) rfl rfl rfl) ⟨_, rfl, h⟩).1
    · replace h := h.2 (beq_eq_false_iff_ne.mp hb87)
      refine y_seq fun K31 hK31 => ?_
      have hjK31 : ∀ (f : Fr) (t47_43 : Bool) (w_44 : World), f 3 = (.pointer (some (⟨w.heap.size, 0, none⟩ : Addr)) : Value) → f 4 = (.pointer (some (⟨w_16.heap.size, 0, none⟩ : Addr)) : Value) → f 5 = (.pointer (some (⟨w_17.heap.size, 0, none⟩ : Addr)) : Value) → f 12 = (.int .i64 t12_19 : Value) → f 47 = (.bool t47_43 : Value) → F51_j1 K w w_16 w_17 t12_19 t47_43 w_44 → WK K31 121 f w_44 := by
        intro f t47_43 w_44 e3 e4 e5 e12 e47 h
        refine y_atf (upd_id (upd_id (upd_id (upd_id (upd_id rfl e3) e4) e5) e12) e47) ?_
        clear e3 e4 e5 e12 e47
        unfold F51_j1 at h
        refine hK31 _ _ ?_
        refine y_cond (t47_43) rfl rfl (fun hb85 => ?_) (fun hb85 => ?_)
        · replace h := h.1 (hb85)
          refine y_seq fun K33 hK33 => ?_
          obtain ⟨w_45, hwd34⟩ : ∃ wd : World, wd = w_44.drew := ⟨_, rfl⟩
          replace h := h _ hwd34
          refine t_region (wd := w_45) [] (by kernel_rfl) hwd34 SF_nil fun Q34 hE34 hp34 hS => ?_
          clear hwd34
          refine t_kw hp34 hS 0 (.pointer (some (⟨w.heap.size, 0, none⟩ : Addr)) : Value) rfl (wanted_none rfl) rfl rfl (by kernel_rfl) (fun _ _ => by kernel_rfl) fun hS => ?_
          obtain ⟨t51_46, hx35, h⟩ := h
          refine t_add ⟨1, [10, 21], fun wx => wx.cell? (⟨w.heap.size, 0, none⟩ : Addr) = some (.pointer t51_46)⟩ ?_
          replace hS := SF_on (x := ⟨1, [10, 21], fun wx => wx.cell? (⟨w.heap.size, 0, none⟩ : Addr) = some (.pointer t51_46)⟩) hx35 hS
          refine t_v (s := Instr.loadAt 48 (.pointer (some (⟨w.heap.size, 0, none⟩ : Addr)))) hp34 hS 1 (.pointer t51_46 : Value) rfl (wanted_none rfl) rfl rfl (by kernel_rfl) (by kernel_rfl) (fun _ hw => rn_load (by kernel_rfl) (Sw.fact (List.Mem.head _) rfl hw)) fun hS => ?_
          refine t_kw hp34 hS 2 (.pointer (some ((⟨w_16.heap.size, 0, none⟩ : Addr).add 2)) : Value) rfl (wanted_none rfl) rfl rfl (by kernel_rfl) (fun _ _ => by kernel_rfl) fun hS => ?_
          obtain ⟨t53_47, hx36, h⟩ := h
          refine t_add ⟨3, [10, 21], fun wx => wx.cell? ((⟨w_16.heap.size, 0, none⟩ : Addr).add 2) = some (.string t53_47)⟩ ?_
          replace hS := SF_on (x := ⟨3, [10, 21], fun wx => wx.cell? ((⟨w_16.heap.size, 0, none⟩ : Addr).add 2) = some (.string t53_47)⟩) hx36 hS
          refine t_v (s := Instr.loadAt 9 (.pointer (some ((⟨w_16.heap.size, 0, none⟩ : Addr).add 2)))) hp34 hS 3 (.string t53_47 : Value) rfl (wanted_none rfl) rfl rfl (by kernel_rfl) (by kernel_rfl) (fun _ hw => rn_load (by kernel_rfl) (Sw.fact (List.Mem.head _) rfl hw)) fun hS => ?_
          refine t_kw hp34 hS 4 (.pointer (some ((⟨w_16.heap.size, 0, none⟩ : Addr).add 3)) : Value) rfl (wanted_none rfl) rfl rfl (by kernel_rfl) (fun _ _ => by kernel_rfl) fun hS => ?_
          obtain ⟨t55_48, hx37, h⟩ := h
          refine t_add ⟨5, [10, 21], fun wx => wx.cell? ((⟨w_16.heap.size, 0, none⟩ : Addr).add 3) = some (.int .i64 t55_48)⟩ ?_
          replace hS := SF_on (x := ⟨5, [10, 21], fun wx => wx.cell? ((⟨w_16.heap.size, 0, none⟩ : Addr).add 3) = some (.int .i64 t55_48)⟩) hx37 hS
          refine t_v (s := Instr.loadAt 2 (.pointer (some ((⟨w_16.heap.size, 0, none⟩ : Addr).add 3)))) hp34 hS 5 (.int .i64 t55_48 : Value) rfl (wanted_none rfl) rfl rfl (by kernel_rfl) (by kernel_rfl) (fun _ hw => rn_load (by kernel_rfl) (Sw.fact (List.Mem.head _) rfl hw)) fun hS => ?_
          refine t_kw hp34 hS 6 (.pointer (some ((⟨w_16.heap.size, 0, none⟩ : Addr).add 4)) : Value) rfl (wanted_none rfl) rfl rfl (by kernel_rfl) (fun _ _ => by kernel_rfl) fun hS => ?_
          obtain ⟨t57_49, hx38, h⟩ := h
          refine t_add ⟨7, [10, 21], fun wx => wx.cell? ((⟨w_16.heap.size, 0, none⟩ : Addr).add 4) = some (.int .i64 t57_49)⟩ ?_
          replace hS := SF_on (x := ⟨7, [10, 21], fun wx => wx.cell? ((⟨w_16.heap.size, 0, none⟩ : Addr).add 4) = some (.int .i64 t57_49)⟩) hx38 hS
          refine t_v (s := Instr.loadAt 3 (.pointer (some ((⟨w_16.heap.size, 0, none⟩ : Addr).add 4)))) hp34 hS 7 (.int .i64 t57_49 : Value) rfl (wanted_none rfl) rfl rfl (by kernel_rfl) (by kernel_rfl) (fun _ hw => rn_load (by kernel_rfl) (Sw.fact (List.Mem.head _) rfl hw)) fun hS => ?_
          refine t_kw hp34 hS 8 (.pointer (some ((⟨w_16.heap.size, 0, none⟩ : Addr).add 5)) : Value) rfl (wanted_none rfl) rfl rfl (by kernel_rfl) (fun _ _ => by kernel_rfl) fun hS => ?_
          obtain ⟨t59_50, hx39, h⟩ := h
          refine t_add ⟨9, [10, 21], fun wx => wx.cell? ((⟨w_16.heap.size, 0, none⟩ : Addr).add 5) = some (.int .i64 t59_50)⟩ ?_
          replace hS := SF_on (x := ⟨9, [10, 21], fun wx => wx.cell? ((⟨w_16.heap.size, 0, none⟩ : Addr).add 5) = some (.int .i64 t59_50)⟩) hx39 hS
          refine t_v (s := Instr.loadAt 3 (.pointer (some ((⟨w_16.heap.size, 0, none⟩ : Addr).add 5)))) hp34 hS 9 (.int .i64 t59_50 : Value) rfl (wanted_none rfl) rfl rfl (by kernel_rfl) (by kernel_rfl) (fun _ hw => rn_load (by kernel_rfl) (Sw.fact (List.Mem.head _) rfl hw)) fun hS => ?_
          refine t_kw hp34 hS 11 (.pointer (some ((⟨w.heap.size, 0, none⟩ : Addr).add 1)) : Value) rfl (wanted_none rfl) rfl rfl (by kernel_rfl) (fun _ _ => by kernel_rfl) fun hS => ?_
          obtain ⟨t62_51, hx40, h⟩ := h
          refine t_add ⟨12, [21], fun wx => wx.cell? ((⟨w.heap.size, 0, none⟩ : Addr).add 1) = some (.pointer t62_51)⟩ ?_
          replace hS := SF_on (x := ⟨12, [21], fun wx => wx.cell? ((⟨w.heap.size, 0, none⟩ : Addr).add 1) = some (.pointer t62_51)⟩) hx40 hS
          refine t_v (s := Instr.loadAt 95 (.pointer (some ((⟨w.heap.size, 0, none⟩ : Addr).add 1)))) hp34 hS 12 (.pointer t62_51 : Value) rfl (wanted_none rfl) rfl rfl (by kernel_rfl) (by kernel_rfl) (fun _ hw => rn_load (by kernel_rfl) (Sw.fact (List.Mem.head _) rfl hw)) fun hS => ?_
          refine t_kw hp34 hS 13 (.pointer (some ((⟨w_16.heap.size, 0, none⟩ : Addr).add 2)) : Value) rfl (wanted_none rfl) rfl rfl (by kernel_rfl) (fun _ _ => by kernel_rfl) fun hS => ?_
          obtain ⟨t64_52, hx41, h⟩ := h
          refine t_add ⟨14, [21], fun wx => wx.cell? ((⟨w_16.heap.size, 0, none⟩ : Addr).add 2) = some (.string t64_52)⟩ ?_
          replace hS := SF_on (x := ⟨14, [21], fun wx => wx.cell? ((⟨w_16.heap.size, 0, none⟩ : Addr).add 2) = some (.string t64_52)⟩) hx41 hS
          refine t_v (s := Instr.loadAt 9 (.pointer (some ((⟨w_16.heap.size, 0, none⟩ : Addr).add 2)))) hp34 hS 14 (.string t64_52 : Value) rfl (wanted_none rfl) rfl rfl (by kernel_rfl) (by kernel_rfl) (fun _ hw => rn_load (by kernel_rfl) (Sw.fact (List.Mem.head _) rfl hw)) fun hS => ?_
          refine t_kw hp34 hS 15 (.pointer (some ((⟨w_16.heap.size, 0, none⟩ : Addr).add 3)) : Value) rfl (wanted_none rfl) rfl rfl (by kernel_rfl) (fun _ _ => by kernel_rfl) fun hS => ?_
          obtain ⟨t66_53, hx42, h⟩ := h
          refine t_add ⟨16, [21], fun wx => wx.cell? ((⟨w_16.heap.size, 0, none⟩ : Addr).add 3) = some (.int .i64 t66_53)⟩ ?_
          replace hS := SF_on (x := ⟨16, [21], fun wx => wx.cell? ((⟨w_16.heap.size, 0, none⟩ : Addr).add 3) = some (.int .i64 t66_53)⟩) hx42 hS
          refine t_v (s := Instr.loadAt 2 (.pointer (some ((⟨w_16.heap.size, 0, none⟩ : Addr).add 3)))) hp34 hS 16 (.int .i64 t66_53 : Value) rfl (wanted_none rfl) rfl rfl (by kernel_rfl) (by kernel_rfl) (fun _ hw => rn_load (by kernel_rfl) (Sw.fact (List.Mem.head _) rfl hw)) fun hS => ?_
          refine t_kw hp34 hS 17 (.pointer (some ((⟨w_16.heap.size, 0, none⟩ : Addr).add 4)) : Value) rfl (wanted_none rfl) rfl rfl (by kernel_rfl) (fun _ _ => by kernel_rfl) fun hS => ?_
          obtain ⟨t68_54, hx43, h⟩ := h
          refine t_add ⟨18, [21], fun wx => wx.cell? ((⟨w_16.heap.size, 0, none⟩ : Addr).add 4) = some (.int .i64 t68_54)⟩ ?_
          replace hS := SF_on (x := ⟨18, [21], fun wx => wx.cell? ((⟨w_16.heap.size, 0, none⟩ : Addr).add 4) = some (.int .i64 t68_54)⟩) hx43 hS
          refine t_v (s := Instr.loadAt 3 (.pointer (some ((⟨w_16.heap.size, 0, none⟩ : Addr).add 4)))) hp34 hS 18 (.int .i64 t68_54 : Value) rfl (wanted_none rfl) rfl rfl (by kernel_rfl) (by kernel_rfl) (fun _ hw => rn_load (by kernel_rfl) (Sw.fact (List.Mem.head _) rfl hw)) fun hS => ?_
          refine t_kw hp34 hS 19 (.pointer (some ((⟨w_16.heap.size, 0, none⟩ : Addr).add 5)) : Value) rfl (wanted_none rfl) rfl rfl (by kernel_rfl) (fun _ _ => by kernel_rfl) fun hS => ?_
          obtain ⟨t70_55, hx44, h⟩ := h
          refine t_add ⟨20, [21], fun wx => wx.cell? ((⟨w_16.heap.size, 0, none⟩ : Addr).add 5) = some (.int .i64 t70_55)⟩ ?_
          replace hS := SF_on (x := ⟨20, [21], fun wx => wx.cell? ((⟨w_16.heap.size, 0, none⟩ : Addr).add 5) = some (.int .i64 t70_55)⟩) hx44 hS
          refine t_v (s := Instr.loadAt 3 (.pointer (some ((⟨w_16.heap.size, 0, none⟩ : Addr).add 5)))) hp34 hS 20 (.int .i64 t70_55 : Value) rfl (wanted_none rfl) rfl rfl (by kernel_rfl) (by kernel_rfl) (fun _ hw => rn_load (by kernel_rfl) (Sw.fact (List.Mem.head _) rfl hw)) fun hS => ?_
          refine t_call 10 (by kernel_rfl) rfl (wanted_none rfl) rfl rfl (by kernel_rfl) (h.mono ?_)
          rintro _ w_57 ⟨t60_56, rfl, hx45, hx46, hx47, hx48, hx49, h⟩
          refine ⟨_, rfl, (SF_on hx45 (SF_on hx46 (SF_on hx47 (SF_on hx48 (SF_on hx49 (SF_off (by kernel_rfl) (by kernel_rfl) (SF_off (by kernel_rfl) (by kernel_rfl) (SF_off (by kernel_rfl) (by kernel_rfl) (SF_off (by kernel_rfl) (by kernel_rfl) (SF_off (by kernel_rfl) (by kernel_rfl) SF_nil)))))))))), fun hS => ?_⟩
          refine t_call 21 (by kernel_rfl) rfl (wanted_none rfl) rfl rfl (by kernel_rfl) (h.mono ?_)
          rintro _ w_59 ⟨t71_58, rfl, h⟩
          refine ⟨_, rfl, (SF_off (by kernel_rfl) (by kernel_rfl) (SF_off (by kernel_rfl) (by kernel_rfl) (SF_off (by kernel_rfl) (by kernel_rfl) (SF_off (by kernel_rfl) (by kernel_rfl) (SF_off (by kernel_rfl) (by kernel_rfl) (SF_off (by kernel_rfl) (by kernel_rfl) (SF_off (by kernel_rfl) (by kernel_rfl) (SF_off (by kernel_rfl) (by kernel_rfl) (SF_off (by kernel_rfl) (by kernel_rfl) (SF_off (by kernel_rfl) (by kernel_rfl) SF_nil)))))))))), fun hS => ?_⟩
          refine t_kw hp34 hS 22 (.bool ((t60_56 == t71_58)) : Value) rfl (wanted_none rfl) rfl rfl (by kernel_rfl) (fun _ _ => by kernel_rfl) fun hS => ?_
          refine t_kw hp34 hS 23 (.bool ((t60_56 == t71_58)) : Value) rfl (wanted_none rfl) rfl rfl (by kernel_rfl) (fun _ _ => by kernel_rfl) fun hS => ?_
          refine t_done (by kernel_rfl) (hE34 _ _ ?_)
          refine y_then (hK33 _ _ ?_)
          refine y_ret ?_
          repeat (first | refine e_then_r ?_ | refine e_block_r ?_)
          exact (hQ0 _ _ _ (res1 (v := (.bool ((t60_56 == t71_58)) : Value)) rfl rfl rfl) ⟨_, rfl, h⟩).1
        · replace h := h.2 (hb85)
          refine y_seq fun K50 hK50 => ?_
          refine y_region ?_
          refine y_k (.bool ((t12_19 == 4)) : Value) w_44 rfl rfl rfl (by kernel_rfl) ?_
          refine y_k (.bool ((t12_19 == 4)) : Value) w_44 rfl rfl rfl (by kernel_rfl) ?_
          refine y_nil ?_
          refine y_then (hK50 _ _ ?_)
          refine y_cond ((t12_19 == 4)) rfl rfl (fun hb84 => ?_) (fun hb84 => ?_)
          · replace h := h.1 (eq_of_beq hb84)
            refine y_seq fun K51 hK51 => ?_
            obtain ⟨w_60, hwd52⟩ : ∃ wd : World, wd = w_44.drew := ⟨_, rfl⟩
            replace h := h _ hwd52
            refine t_region (wd := w_60) [] (by kernel_rfl) hwd52 SF_nil fun Q52 hE52 hp52 hS => ?_
            clear hwd52
            refine t_kw hp52 hS 0 (.pointer (some (⟨w.heap.size, 0, none⟩ : Addr)) : Value) rfl (wanted_none rfl) rfl rfl (by kernel_rfl) (fun _ _ => by kernel_rfl) fun hS => ?_
            obtain ⟨t76_61, hx53, h⟩ := h
            refine t_add ⟨1, [6, 13], fun wx => wx.cell? (⟨w.heap.size, 0, none⟩ : Addr) = some (.pointer t76_61)⟩ ?_
            replace hS := SF_on (x := ⟨1, [6, 13], fun wx => wx.cell? (⟨w.heap.size, 0, none⟩ : Addr) = some (.pointer t76_61)⟩) hx53 hS
            refine t_v (s := Instr.loadAt 48 (.pointer (some (⟨w.heap.size, 0, none⟩ : Addr)))) hp52 hS 1 (.pointer t76_61 : Value) rfl (wanted_none rfl) rfl rfl (by kernel_rfl) (by kernel_rfl) (fun _ hw => rn_load (by kernel_rfl) (Sw.fact (List.Mem.head _) rfl hw)) fun hS => ?_
            refine t_kw hp52 hS 2 (.pointer (some ((⟨w_16.heap.size, 0, none⟩ : Addr).add 2)) : Value) rfl (wanted_none rfl) rfl rfl (by kernel_rfl) (fun _ _ => by kernel_rfl) fun hS => ?_
            obtain ⟨t78_62, hx54, h⟩ := h
            refine t_add ⟨3, [6, 13], fun wx => wx.cell? ((⟨w_16.heap.size, 0, none⟩ : Addr).add 2) = some (.string t78_62)⟩ ?_
            replace hS := SF_on (x := ⟨3, [6, 13], fun wx => wx.cell? ((⟨w_16.heap.size, 0, none⟩ : Addr).add 2) = some (.string t78_62)⟩) hx54 hS
            refine t_v (s := Instr.loadAt 9 (.pointer (some ((⟨w_16.heap.size, 0, none⟩ : Addr).add 2)))) hp52 hS 3 (.string t78_62 : Value) rfl (wanted_none rfl) rfl rfl (by kernel_rfl) (by kernel_rfl) (fun _ hw => rn_load (by kernel_rfl) (Sw.fact (List.Mem.head _) rfl hw)) fun hS => ?_
            refine t_kw hp52 hS 4 (.pointer (some ((⟨w_16.heap.size, 0, none⟩ : Addr).add 6)) : Value) rfl (wanted_none rfl) rfl rfl (by kernel_rfl) (fun _ _ => by kernel_rfl) fun hS => ?_
            obtain ⟨t80_63, t80_64, t80_65, t80_66, t80_67, hx55, h⟩ := h
            refine t_add ⟨5, [6, 13], fun wx => CellsAt wx ((⟨w_16.heap.size, 0, none⟩ : Addr).add 6) 0 [.int .i64 t80_63, .int .i64 t80_64, .int .i64 t80_65, .int .i64 t80_66, .int .i64 t80_67]⟩ ?_
            replace hS := SF_on (x := ⟨5, [6, 13], fun wx => CellsAt wx ((⟨w_16.heap.size, 0, none⟩ : Addr).add 6) 0 [.int .i64 t80_63, .int .i64 t80_64, .int .i64 t80_65, .int .i64 t80_66, .int .i64 t80_67]⟩) hx55 hS
            refine t_v (s := Instr.loadAt 87 (.pointer (some ((⟨w_16.heap.size, 0, none⟩ : Addr).add 6)))) hp52 hS 5 (.agg #[.int .i64 t80_63, .int .i64 t80_64, .int .i64 t80_65, .int .i64 t80_66, .int .i64 t80_67] : Value) rfl (wanted_none rfl) rfl rfl (by kernel_rfl) (by kernel_rfl) (fun _ hw => rn_loadcells (k := 5) ⟨by kernel_rfl, by kernel_rfl⟩ rfl (Sw.fact (List.Mem.head _) rfl hw)) fun hS => ?_
            refine t_kw hp52 hS 7 (.pointer (some ((⟨w.heap.size, 0, none⟩ : Addr).add 1)) : Value) rfl (wanted_none rfl) rfl rfl (by kernel_rfl) (fun _ _ => by kernel_rfl) fun hS => ?_
            obtain ⟨t83_68, hx56, h⟩ := h
            refine t_add ⟨8, [13], fun wx => wx.cell? ((⟨w.heap.size, 0, none⟩ : Addr).add 1) = some (.pointer t83_68)⟩ ?_
            replace hS := SF_on (x := ⟨8, [13], fun wx => wx.cell? ((⟨w.heap.size, 0, none⟩ : Addr).add 1) = some (.pointer t83_68)⟩) hx56 hS
            refine t_v (s := Instr.loadAt 95 (.pointer (some ((⟨w.heap.size, 0, none⟩ : Addr).add 1)))) hp52 hS 8 (.pointer t83_68 : Value) rfl (wanted_none rfl) rfl rfl (by kernel_rfl) (by kernel_rfl) (fun _ hw => rn_load (by kernel_rfl) (Sw.fact (List.Mem.head _) rfl hw)) fun hS => ?_
            refine t_kw hp52 hS 9 (.pointer (some ((⟨w_16.heap.size, 0, none⟩ : Addr).add 2)) : Value) rfl (wanted_none rfl) rfl rfl (by kernel_rfl) (fun _ _ => by kernel_rfl) fun hS => ?_
            obtain ⟨t85_69, hx57, h⟩ := h
            refine t_add ⟨10, [13], fun wx => wx.cell? ((⟨w_16.heap.size, 0, none⟩ : Addr).add 2) = some (.string t85_69)⟩ ?_
            replace hS := SF_on (x := ⟨10, [13], fun wx => wx.cell? ((⟨w_16.heap.size, 0, none⟩ : Addr).add 2) = some (.string t85_69)⟩) hx57 hS
            refine t_v (s := Instr.loadAt 9 (.pointer (some ((⟨w_16.heap.size, 0, none⟩ : Addr).add 2)))) hp52 hS 10 (.string t85_69 : Value) rfl (wanted_none rfl) rfl rfl (by kernel_rfl) (by kernel_rfl) (fun _ hw => rn_load (by kernel_rfl) (Sw.fact (List.Mem.head _) rfl hw)) fun hS => ?_
            refine t_kw hp52 hS 11 (.pointer (some ((⟨w_16.heap.size, 0, none⟩ : Addr).add 6)) : Value) rfl (wanted_none rfl) rfl rfl (by kernel_rfl) (fun _ _ => by kernel_rfl) fun hS => ?_
            obtain ⟨t87_70, t87_71, t87_72, t87_73, t87_74, hx58, h⟩ := h
            refine t_add ⟨12, [13], fun wx => CellsAt wx ((⟨w_16.heap.size, 0, none⟩ : Addr).add 6) 0 [.int .i64 t87_70, .int .i64 t87_71, .int .i64 t87_72, .int .i64 t87_73, .int .i64 t87_74]⟩ ?_
            replace hS := SF_on (x := ⟨12, [13], fun wx => CellsAt wx ((⟨w_16.heap.size, 0, none⟩ : Addr).add 6) 0 [.int .i64 t87_70, .int .i64 t87_71, .int .i64 t87_72, .int .i64 t87_73, .int .i64 t87_74]⟩) hx58 hS
            refine t_v (s := Instr.loadAt 87 (.pointer (some ((⟨w_16.heap.size, 0, none⟩ : Addr).add 6)))) hp52 hS 12 (.agg #[.int .i64 t87_70, .int .i64 t87_71, .int .i64 t87_72, .int .i64 t87_73, .int .i64 t87_74] : Value) rfl (wanted_none rfl) rfl rfl (by kernel_rfl) (by kernel_rfl) (fun _ hw => rn_loadcells (k := 5) ⟨by kernel_rfl, by kernel_rfl⟩ rfl (Sw.fact (List.Mem.head _) rfl hw)) fun hS => ?_
            refine t_call 6 (by kernel_rfl) rfl (wanted_none rfl) rfl rfl (by kernel_rfl) (h.mono ?_)
            rintro _ w_76 ⟨t81_75, rfl, hx59, hx60, hx61, h⟩
            refine ⟨_, rfl, (SF_on hx59 (SF_on hx60 (SF_on hx61 (SF_off (by kernel_rfl) (by kernel_rfl) (SF_off (by kernel_rfl) (by kernel_rfl) (SF_off (by kernel_rfl) (by kernel_rfl) SF_nil)))))), fun hS => ?_⟩
            refine t_call 13 (by kernel_rfl) rfl (wanted_none rfl) rfl rfl (by kernel_rfl) (h.mono ?_)
            rintro _ w_78 ⟨t88_77, rfl, h⟩
            refine ⟨_, rfl, (SF_off (by kernel_rfl) (by kernel_rfl) (SF_off (by kernel_rfl) (by kernel_rfl) (SF_off (by kernel_rfl) (by kernel_rfl) (SF_off (by kernel_rfl) (by kernel_rfl) (SF_off (by kernel_rfl) (by kernel_rfl) (SF_off (by kernel_rfl) (by kernel_rfl) SF_nil)))))), fun hS => ?_⟩
            refine t_kw hp52 hS 14 (.bool ((t81_75 == t88_77)) : Value) rfl (wanted_none rfl) rfl rfl (by kernel_rfl) (fun _ _ => by kernel_rfl) fun hS => ?_
            refine t_kw hp52 hS 15 (.bool ((t81_75 == t88_77)) : Value) rfl (wanted_none rfl) rfl rfl (by kernel_rfl) (fun _ _ => by kernel_rfl) fun hS => ?_
            refine t_done (by kernel_rfl) (hE52 _ _ ?_)
            refine y_then (hK51 _ _ ?_)
            refine y_ret ?_
            repeat (first | refine e_then_r ?_ | refine e_block_r ?_)
            exact (hQ0 _ _ _ (res1 (v := (.bool ((t81_75 == t88_77)) : Value)) rfl rfl rfl) ⟨_, rfl, h⟩).1
          · replace h := h.2 (beq_eq_false_iff_ne.mp hb84)
            refine y_seq fun K62 hK62 => ?_
            refine y_region ?_
            refine y_k (.bool ((t12_19 == 5)) : Value) w_44 rfl rfl rfl (by kernel_rfl) ?_
            refine y_k (.bool ((t12_19 == 5)) : Value) w_44 rfl rfl rfl (by kernel_rfl) ?_
            refine y_nil ?_
            refine y_then (hK62 _ _ ?_)
            refine y_cond ((t12_19 == 5)) rfl rfl (fun hb83 => ?_) (fun hb83 => ?_)
            · replace h := h.1 (eq_of_beq hb83)
              refine y_seq fun K63 hK63 => ?_
              refine y_region ?_
              refine y_k (.pointer (some (⟨w.heap.size, 0, none⟩ : Addr)) : Value) w_44 rfl rfl rfl (by kernel_rfl) ?_
              obtain ⟨t94_79, hx64, h⟩ := h
              refine y_v (s := Instr.loadAt 48 (.pointer (some (⟨w.heap.size, 0, none⟩ : Addr)))) rfl rfl rfl (by kernel_rfl) (rn_load (by kernel_rfl) hx64) ?_
              refine y_k (.pointer (some ((⟨w_16.heap.size, 0, none⟩ : Addr).add 2)) : Value) w_44 rfl rfl rfl (by kernel_rfl) ?_
              obtain ⟨t96_80, hx65, h⟩ := h
              refine y_v (s := Instr.loadAt 9 (.pointer (some ((⟨w_16.heap.size, 0, none⟩ : Addr).add 2)))) rfl rfl rfl (by kernel_rfl) (rn_load (by kernel_rfl) hx65) ?_
              refine y_call rfl rfl rfl (by kernel_rfl) (h.mono ?_)
              rintro _ w_87 ⟨t97_81, t97_82, t97_83, t97_84, t97_85, t97_86, rfl, h⟩
              refine ⟨_, rfl, ?_⟩
              refine y_k (.tuple #[.agg #[.int .i64 t97_81, .int .i64 t97_82, .int .i64 t97_83, .int .i64 t97_84, .int .i64 t97_85], .bool t97_86] : Value) w_87 rfl rfl rfl (by kernel_rfl) ?_
              refine y_k (.agg #[.int .i64 t97_81, .int .i64 t97_82, .int .i64 t97_83, .int .i64 t97_84, .int .i64 t97_85] : Value) w_87 rfl rfl rfl (by kernel_rfl) ?_
              refine y_k (.bool t97_86 : Value) w_87 rfl rfl rfl (by kernel_rfl) ?_
              refine y_k (.pointer (some (⟨w_87.heap.size, 0, none⟩ : Addr)) : Value) (w_87.alloc (.cells #[.int .i64 0, .int .i64 0, .int .i64 0, .int .i64 0, .int .i64 0] 87)) rfl rfl rfl (by kernel_rfl) ?_
              replace h := h _ rfl
              generalize w_87.alloc (.cells #[.int .i64 0, .int .i64 0, .int .i64 0, .int .i64 0, .int .i64 0] 87) = w_88 at h ⊢
              obtain ⟨hx66, h⟩ := h
              replace h := h _ rfl
              refine y_u (s := Instr.storeAt 87 (.pointer (some (⟨w_87.heap.size, 0, none⟩ : Addr))) (.agg #[.int .i64 t97_81, .int .i64 t97_82, .int .i64 t97_83, .int .i64 t97_84, .int .i64 t97_85] : Value)) rfl rfl (by kernel_rfl) (rn_storecells (k := 5) (cs := [.int .i64 t97_81, .int .i64 t97_82, .int .i64 t97_83, .int .i64 t97_84, .int .i64 t97_85]) (by kernel_rfl) rfl (by simp [Value.oneCell']) hx66) ?_
              generalize setCells w_88 (⟨w_87.heap.size, 0, none⟩ : Addr) 0 [.int .i64 t97_81, .int .i64 t97_82, .int .i64 t97_83, .int .i64 t97_84, .int .i64 t97_85] = w_89 at h ⊢
              refine y_k (.bool t97_86 : Value) w_89 rfl rfl rfl (by kernel_rfl) ?_
              refine y_nil ?_
              refine y_then (hK63 _ _ ?_)
              refine y_seq fun K67 hK67 => ?_
              refine y_region ?_
              refine y_k (.pointer (some ((⟨w.heap.size, 0, none⟩ : Addr).add 1)) : Value) w_89 rfl rfl rfl (by kernel_rfl) ?_
              obtain ⟨t102_90, hx68, h⟩ := h
              refine y_v (s := Instr.loadAt 95 (.pointer (some ((⟨w.heap.size, 0, none⟩ : Addr).add 1)))) rfl rfl rfl (by kernel_rfl) (rn_load (by kernel_rfl) hx68) ?_
              refine y_k (.pointer (some ((⟨w_16.heap.size, 0, none⟩ : Addr).add 2)) : Value) w_89 rfl rfl rfl (by kernel_rfl) ?_
              obtain ⟨t104_91, hx69, h⟩ := h
              refine y_v (s := Instr.loadAt 9 (.pointer (some ((⟨w_16.heap.size, 0, none⟩ : Addr).add 2)))) rfl rfl rfl (by kernel_rfl) (rn_load (by kernel_rfl) hx69) ?_
              refine y_call rfl rfl rfl (by kernel_rfl) (h.mono ?_)
              rintro _ w_98 ⟨t105_92, t105_93, t105_94, t105_95, t105_96, t105_97, rfl, h⟩
              refine ⟨_, rfl, ?_⟩
              refine y_k (.tuple #[.agg #[.int .i64 t105_92, .int .i64 t105_93, .int .i64 t105_94, .int .i64 t105_95, .int .i64 t105_96], .bool t105_97] : Value) w_98 rfl rfl rfl (by kernel_rfl) ?_
              refine y_k (.agg #[.int .i64 t105_92, .int .i64 t105_93, .int .i64 t105_94, .int .i64 t105_95, .int .i64 t105_96] : Value) w_98 rfl rfl rfl (by kernel_rfl) ?_
              refine y_k (.bool t105_97 : Value) w_98 rfl rfl rfl (by kernel_rfl) ?_
              refine y_k (.pointer (some (⟨w_98.heap.size, 0, none⟩ : Addr)) : Value) (w_98.alloc (.cells #[.int .i64 0, .int .i64 0, .int .i64 0, .int .i64 0, .int .i64 0] 87)) rfl rfl rfl (by kernel_rfl) ?_
              replace h := h _ rfl
              generalize w_98.alloc (.cells #[.int .i64 0, .int .i64 0, .int .i64 0, .int .i64 0, .int .i64 0] 87) = w_99 at h ⊢
              obtain ⟨hx70, h⟩ := h
              replace h := h _ rfl
              refine y_u (s := Instr.storeAt 87 (.pointer (some (⟨w_98.heap.size, 0, none⟩ : Addr))) (.agg #[.int .i64 t105_92, .int .i64 t105_93, .int .i64 t105_94, .int .i64 t105_95, .int .i64 t105_96] : Value)) rfl rfl (by kernel_rfl) (rn_storecells (k := 5) (cs := [.int .i64 t105_92, .int .i64 t105_93, .int .i64 t105_94, .int .i64 t105_95, .int .i64 t105_96]) (by kernel_rfl) rfl (by simp [Value.oneCell']) hx70) ?_
              generalize setCells w_99 (⟨w_98.heap.size, 0, none⟩ : Addr) 0 [.int .i64 t105_92, .int .i64 t105_93, .int .i64 t105_94, .int .i64 t105_95, .int .i64 t105_96] = w_100 at h ⊢
              refine y_k (.bool t105_97 : Value) w_100 rfl rfl rfl (by kernel_rfl) ?_
              refine y_nil ?_
              refine y_then (hK67 _ _ ?_)
              refine y_seq fun K71 hK71 => ?_
              obtain ⟨w_101, hwd72⟩ : ∃ wd : World, wd = w_100.drew := ⟨_, rfl⟩
              replace h := h _ hwd72
              refine t_region (wd := w_101) [] (by kernel_rfl) hwd72 SF_nil fun Q72 hE72 hp72 hS => ?_
              clear hwd72
              refine t_kw hp72 hS 0 (.pointer (some (⟨w_17.heap.size, 0, none⟩ : Addr)) : Value) rfl (wanted_none rfl) rfl rfl (by kernel_rfl) (fun _ _ => by kernel_rfl) fun hS => ?_
              obtain ⟨t109_102, hx73, h⟩ := h
              refine t_add ⟨1, [5, 11], fun wx => wx.cell? (⟨w_17.heap.size, 0, none⟩ : Addr) = some (.pointer t109_102)⟩ ?_
              replace hS := SF_on (x := ⟨1, [5, 11], fun wx => wx.cell? (⟨w_17.heap.size, 0, none⟩ : Addr) = some (.pointer t109_102)⟩) hx73 hS
              refine t_v (s := Instr.loadAt 48 (.pointer (some (⟨w_17.heap.size, 0, none⟩ : Addr)))) hp72 hS 1 (.pointer t109_102 : Value) rfl (wanted_none rfl) rfl rfl (by kernel_rfl) (by kernel_rfl) (fun _ hw => rn_load (by kernel_rfl) (Sw.fact (List.Mem.head _) rfl hw)) fun hS => ?_
              refine t_kw hp72 hS 2 (.pointer (some ((⟨w_16.heap.size, 0, none⟩ : Addr).add 2)) : Value) rfl (wanted_none rfl) rfl rfl (by kernel_rfl) (fun _ _ => by kernel_rfl) fun hS => ?_
              obtain ⟨t111_103, hx74, h⟩ := h
              refine t_add ⟨3, [5, 11], fun wx => wx.cell? ((⟨w_16.heap.size, 0, none⟩ : Addr).add 2) = some (.string t111_103)⟩ ?_
              replace hS := SF_on (x := ⟨3, [5, 11], fun wx => wx.cell? ((⟨w_16.heap.size, 0, none⟩ : Addr).add 2) = some (.string t111_103)⟩) hx74 hS
              refine t_v (s := Instr.loadAt 9 (.pointer (some ((⟨w_16.heap.size, 0, none⟩ : Addr).add 2)))) hp72 hS 3 (.string t111_103 : Value) rfl (wanted_none rfl) rfl rfl (by kernel_rfl) (by kernel_rfl) (fun _ hw => rn_load (by kernel_rfl) (Sw.fact (List.Mem.head _) rfl hw)) fun hS => ?_
              obtain ⟨t112_104, t112_105, t112_106, t112_107, t112_108, hx75, h⟩ := h
              refine t_add ⟨4, [5, 11], fun wx => CellsAt wx (⟨w_87.heap.size, 0, none⟩ : Addr) 0 [.int .i64 t112_104, .int .i64 t112_105, .int .i64 t112_106, .int .i64 t112_107, .int .i64 t112_108]⟩ ?_
              replace hS := SF_on (x := ⟨4, [5, 11], fun wx => CellsAt wx (⟨w_87.heap.size, 0, none⟩ : Addr) 0 [.int .i64 t112_104, .int .i64 t112_105, .int .i64 t112_106, .int .i64 t112_107, .int .i64 t112_108]⟩) hx75 hS
              refine t_v (s := Instr.loadAt 87 (.pointer (some (⟨w_87.heap.size, 0, none⟩ : Addr)))) hp72 hS 4 (.agg #[.int .i64 t112_104, .int .i64 t112_105, .int .i64 t112_106, .int .i64 t112_107, .int .i64 t112_108] : Value) rfl (wanted_none rfl) rfl rfl (by kernel_rfl) (by kernel_rfl) (fun _ hw => rn_loadcells (k := 5) ⟨by kernel_rfl, by kernel_rfl⟩ rfl (Sw.fact (List.Mem.head _) rfl hw)) fun hS => ?_
              refine t_kw hp72 hS 6 (.pointer (some ((⟨w_17.heap.size, 0, none⟩ : Addr).add 1)) : Value) rfl (wanted_none rfl) rfl rfl (by kernel_rfl) (fun _ _ => by kernel_rfl) fun hS => ?_
              obtain ⟨t115_109, hx76, h⟩ := h
              refine t_add ⟨7, [11], fun wx => wx.cell? ((⟨w_17.heap.size, 0, none⟩ : Addr).add 1) = some (.pointer t115_109)⟩ ?_
              replace hS := SF_on (x := ⟨7, [11], fun wx => wx.cell? ((⟨w_17.heap.size, 0, none⟩ : Addr).add 1) = some (.pointer t115_109)⟩) hx76 hS
              refine t_v (s := Instr.loadAt 95 (.pointer (some ((⟨w_17.heap.size, 0, none⟩ : Addr).add 1)))) hp72 hS 7 (.pointer t115_109 : Value) rfl (wanted_none rfl) rfl rfl (by kernel_rfl) (by kernel_rfl) (fun _ hw => rn_load (by kernel_rfl) (Sw.fact (List.Mem.head _) rfl hw)) fun hS => ?_
              refine t_kw hp72 hS 8 (.pointer (some ((⟨w_16.heap.size, 0, none⟩ : Addr).add 2)) : Value) rfl (wanted_none rfl) rfl rfl (by kernel_rfl) (fun _ _ => by kernel_rfl) fun hS => ?_
              obtain ⟨t117_110, hx77, h⟩ := h
              refine t_add ⟨9, [11], fun wx => wx.cell? ((⟨w_16.heap.size, 0, none⟩ : Addr).add 2) = some (.string t117_110)⟩ ?_
              replace hS := SF_on (x := ⟨9, [11], fun wx => wx.cell? ((⟨w_16.heap.size, 0, none⟩ : Addr).add 2) = some (.string t117_110)⟩) hx77 hS
              refine t_v (s := Instr.loadAt 9 (.pointer (some ((⟨w_16.heap.size, 0, none⟩ : Addr).add 2)))) hp72 hS 9 (.string t117_110 : Value) rfl (wanted_none rfl) rfl rfl (by kernel_rfl) (by kernel_rfl) (fun _ hw => rn_load (by kernel_rfl) (Sw.fact (List.Mem.head _) rfl hw)) fun hS => ?_
              obtain ⟨t118_111, t118_112, t118_113, t118_114, t118_115, hx78, h⟩ := h
              refine t_add ⟨10, [11], fun wx => CellsAt wx (⟨w_98.heap.size, 0, none⟩ : Addr) 0 [.int .i64 t118_111, .int .i64 t118_112, .int .i64 t118_113, .int .i64 t118_114, .int .i64 t118_115]⟩ ?_
              replace hS := SF_on (x := ⟨10, [11], fun wx => CellsAt wx (⟨w_98.heap.size, 0, none⟩ : Addr) 0 [.int .i64 t118_111, .int .i64 t118_112, .int .i64 t118_113, .int .i64 t118_114, .int .i64 t118_115]⟩) hx78 hS
              refine t_v (s := Instr.loadAt 87 (.pointer (some (⟨w_98.heap.size, 0, none⟩ : Addr)))) hp72 hS 10 (.agg #[.int .i64 t118_111, .int .i64 t118_112, .int .i64 t118_113, .int .i64 t118_114, .int .i64 t118_115] : Value) rfl (wanted_none rfl) rfl rfl (by kernel_rfl) (by kernel_rfl) (fun _ hw => rn_loadcells (k := 5) ⟨by kernel_rfl, by kernel_rfl⟩ rfl (Sw.fact (List.Mem.head _) rfl hw)) fun hS => ?_
              refine t_call 5 (by kernel_rfl) rfl (wanted_none rfl) rfl rfl (by kernel_rfl) (h.mono ?_)
              rintro _ w_117 ⟨t113_116, rfl, hx79, hx80, hx81, h⟩
              refine ⟨_, rfl, (SF_on hx79 (SF_on hx80 (SF_on hx81 (SF_off (by kernel_rfl) (by kernel_rfl) (SF_off (by kernel_rfl) (by kernel_rfl) (SF_off (by kernel_rfl) (by kernel_rfl) SF_nil)))))), fun hS => ?_⟩
              refine t_call 11 (by kernel_rfl) rfl (wanted_none rfl) rfl rfl (by kernel_rfl) (h.mono ?_)
              rintro _ w_119 ⟨t119_118, rfl, h⟩
              refine ⟨_, rfl, (SF_off (by kernel_rfl) (by kernel_rfl) (SF_off (by kernel_rfl) (by kernel_rfl) (SF_off (by kernel_rfl) (by kernel_rfl) (SF_off (by kernel_rfl) (by kernel_rfl) (SF_off (by kernel_rfl) (by kernel_rfl) (SF_off (by kernel_rfl) (by kernel_rfl) SF_nil)))))), fun hS => ?_⟩
              refine t_kw hp72 hS 12 (.bool ((t113_116 == t119_118)) : Value) rfl (wanted_none rfl) rfl rfl (by kernel_rfl) (fun _ _ => by kernel_rfl) fun hS => ?_
              refine t_kw hp72 hS 13 (.bool ((t113_116 == t119_118)) : Value) rfl (wanted_none rfl) rfl rfl (by kernel_rfl) (fun _ _ => by kernel_rfl) fun hS => ?_
              refine t_done (by kernel_rfl) (hE72 _ _ ?_)
              refine y_then (hK71 _ _ ?_)
              refine y_ret ?_
              repeat (first | refine e_then_r ?_ | refine e_block_r ?_)
              exact (hQ0 _ _ _ (res1 (v := (.bool ((t113_116 == t119_118)) : Value)) rfl rfl rfl) ⟨_, rfl, h⟩).1
            · replace h := h.2 (beq_eq_false_iff_ne.mp hb83)
              refine y_skip ?_
              refine e_block_n ?_
              refine y_then (hK2 _ _ ?_)
              refine y_seq fun K82 hK82 => ?_
              refine y_region ?_
              refine y_k (.bool true : Value) w_44 rfl rfl rfl (by kernel_rfl) ?_
              refine y_nil ?_
              refine y_then (hK82 _ _ ?_)
              refine y_ret ?_
              repeat (first | refine e_then_r ?_ | refine e_block_r ?_)
              exact (hQ0 _ _ _ (res1 (v := (.bool true : Value)) rfl rfl rfl) ⟨_, rfl, h⟩).1
      refine y_seq fun K32 hK32 => ?_
      refine y_region ?_
      refine y_k (.bool ((t12_19 == 2)) : Value) w_18 rfl rfl rfl (by kernel_rfl) ?_
      refine y_k (.bool ((t12_19 == 2)) : Value) w_18 rfl rfl rfl (by kernel_rfl) ?_
      refine y_nil ?_
      refine y_then (hK32 _ _ ?_)
      refine y_cond ((t12_19 == 2)) rfl rfl (fun hb86 => ?_) (fun hb86 => ?_)
      · replace h := h.1 (eq_of_beq hb86)
        refine y_skip ?_
        exact y_then (hjK31 _ ((t12_19 == 2)) w_18 rfl rfl rfl rfl rfl h)
      · replace h := h.2 (beq_eq_false_iff_ne.mp hb86)
        refine y_region ?_
        refine y_k (.bool ((t12_19 == 3)) : Value) w_18 rfl rfl rfl (by kernel_rfl) ?_
        refine y_k (.bool ((t12_19 == 3)) : Value) w_18 rfl rfl rfl (by kernel_rfl) ?_
        refine y_nil ?_
        exact y_then (hjK31 _ ((t12_19 == 3)) w_18 rfl rfl rfl rfl rfl h)

def F52_j1 (K : Bool → World → Prop) (t6_57 : Bool) (w_58 : World) : Prop :=
  K t6_57 w_58
/-- (turnkey/turnkeylaw15.pair).looks -/
def F52 (p0_1 : Option Addr) (p0_2 : Option Addr) (tenant1_3 : ByteArray) (w2_4 : Int) (K : Bool → World → Prop) (w : World) : Prop :=
  ∀ (w_5 : World), w_5 = w.alloc (.cells #[.pointer p0_1, .pointer p0_2] 98) →
  ∃ (t23_6 : Option Addr), w_5.cell? (⟨w.heap.size, 0, none⟩ : Addr) = some (.pointer t23_6) ∧
  Calls Try.prog 69 #[.pointer t23_6, .string tenant1_3] w_5 fun e w_10 => ∃ (t25_7 : Int), ∃ (t25_8 : Int), ∃ (t25_9 : Bool), e = .returned (.tuple #[.int .i64 t25_7, .int .i64 t25_8, .bool t25_9] : Value) ∧
  ∃ (t31_11 : Option Addr), w_10.cell? ((⟨w.heap.size, 0, none⟩ : Addr).add 1) = some (.pointer t31_11) ∧
  Calls Try.prog 70 #[.pointer t31_11, .string tenant1_3] w_10 fun e w_15 => ∃ (t33_12 : Int), ∃ (t33_13 : Int), ∃ (t33_14 : Bool), e = .returned (.tuple #[.int .i64 t33_12, .int .i64 t33_13, .bool t33_14] : Value) ∧
  ∃ (t39_16 : Option Addr), w_15.cell? (⟨w.heap.size, 0, none⟩ : Addr) = some (.pointer t39_16) ∧
  Calls Try.prog 30 #[.pointer t39_16, .string tenant1_3, .int .i64 w2_4] w_15 fun e w_19 => ∃ (t42_17 : Int), ∃ (t42_18 : Int), e = .returned (.tuple #[.int .i64 t42_17, .int .i64 t42_18] : Value) ∧
  ∃ (t47_20 : Option Addr), w_19.cell? ((⟨w.heap.size, 0, none⟩ : Addr).add 1) = some (.pointer t47_20) ∧
  Calls Try.prog 71 #[.pointer t47_20, .string tenant1_3, .int .i64 w2_4] w_19 fun e w_23 => ∃ (t50_21 : Int), ∃ (t50_22 : Int), e = .returned (.tuple #[.int .i64 t50_21, .int .i64 t50_22] : Value) ∧
  ∃ (t55_24 : Option Addr), w_23.cell? (⟨w.heap.size, 0, none⟩ : Addr) = some (.pointer t55_24) ∧
  Calls Try.prog 49 #[.pointer t55_24, .string tenant1_3] w_23 fun e w_31 => ∃ (t57_25 : Int), ∃ (t57_26 : Int), ∃ (t57_27 : Int), ∃ (t57_28 : Int), ∃ (t57_29 : Int), ∃ (t57_30 : Bool), e = .returned (.tuple #[.agg #[.int .i64 t57_25, .int .i64 t57_26, .int .i64 t57_27, .int .i64 t57_28, .int .i64 t57_29], .bool t57_30] : Value) ∧
  ∀ (w_32 : World), w_32 = w_31.alloc (.cells #[.int .i64 0, .int .i64 0, .int .i64 0, .int .i64 0, .int .i64 0] 87) →
  HasCells w_32 (⟨w_31.heap.size, 0, none⟩ : Addr) 0 5 ∧ ∀ (w_33 : World), w_33 = setCells w_32 (⟨w_31.heap.size, 0, none⟩ : Addr) 0 [.int .i64 t57_25, .int .i64 t57_26, .int .i64 t57_27, .int .i64 t57_28, .int .i64 t57_29] →
  ∃ (t62_34 : Option Addr), w_33.cell? ((⟨w.heap.size, 0, none⟩ : Addr).add 1) = some (.pointer t62_34) ∧
  Calls Try.prog 68 #[.pointer t62_34, .string tenant1_3] w_33 fun e w_41 => ∃ (t64_35 : Int), ∃ (t64_36 : Int), ∃ (t64_37 : Int), ∃ (t64_38 : Int), ∃ (t64_39 : Int), ∃ (t64_40 : Bool), e = .returned (.tuple #[.agg #[.int .i64 t64_35, .int .i64 t64_36, .int .i64 t64_37, .int .i64 t64_38, .int .i64 t64_39], .bool t64_40] : Value) ∧
  ∀ (w_42 : World), w_42 = w_41.alloc (.cells #[.int .i64 0, .int .i64 0, .int .i64 0, .int .i64 0, .int .i64 0] 87) →
  HasCells w_42 (⟨w_41.heap.size, 0, none⟩ : Addr) 0 5 ∧ ∀ (w_43 : World), w_43 = setCells w_42 (⟨w_41.heap.size, 0, none⟩ : Addr) 0 [.int .i64 t64_35, .int .i64 t64_36, .int .i64 t64_37, .int .i64 t64_38, .int .i64 t64_39] →
  ((t25_7 = t33_12 →
  ((t25_8 = t33_13 →
  ∃ (t78_44 : Bool), (do eqGuard .eql 4 (Operand.tmp 76) (Operand.tmp 77) (.bool t25_9 : Value) (.bool t33_14 : Value); binOp .eql 4 (.bool t25_9 : Value) (.bool t33_14 : Value)).run Try.prog w_43 = .ok (.bool t78_44 : Value) w_43 ∧
  ((t78_44 = true →
  ((t42_17 = t50_21 →
  ((t42_18 = t50_22 →
  ∃ (t91_45 : Int), ∃ (t91_46 : Int), ∃ (t91_47 : Int), ∃ (t91_48 : Int), ∃ (t91_49 : Int), CellsAt w_43 (⟨w_31.heap.size, 0, none⟩ : Addr) 0 [.int .i64 t91_45, .int .i64 t91_46, .int .i64 t91_47, .int .i64 t91_48, .int .i64 t91_49] ∧
  ∃ (t92_50 : Int), ∃ (t92_51 : Int), ∃ (t92_52 : Int), ∃ (t92_53 : Int), ∃ (t92_54 : Int), CellsAt w_43 (⟨w_41.heap.size, 0, none⟩ : Addr) 0 [.int .i64 t92_50, .int .i64 t92_51, .int .i64 t92_52, .int .i64 t92_53, .int .i64 t92_54] ∧
  ∃ (t93_55 : Bool), (do eqGuard .eql 87 (Operand.tmp 91) (Operand.tmp 92) (.agg #[.int .i64 t91_45, .int .i64 t91_46, .int .i64 t91_47, .int .i64 t91_48, .int .i64 t91_49] : Value) (.agg #[.int .i64 t92_50, .int .i64 t92_51, .int .i64 t92_52, .int .i64 t92_53, .int .i64 t92_54] : Value); binOp .eql 87 (.agg #[.int .i64 t91_45, .int .i64 t91_46, .int .i64 t91_47, .int .i64 t91_48, .int .i64 t91_49] : Value) (.agg #[.int .i64 t92_50, .int .i64 t92_51, .int .i64 t92_52, .int .i64 t92_53, .int .i64 t92_54] : Value)).run Try.prog w_43 = .ok (.bool t93_55 : Value) w_43 ∧
  ((t93_55 = true →
  ∃ (t98_56 : Bool), (do eqGuard .eql 4 (Operand.tmp 96) (Operand.tmp 97) (.bool t57_30 : Value) (.bool t64_40 : Value); binOp .eql 4 (.bool t57_30 : Value) (.bool t64_40 : Value)).run Try.prog w_43 = .ok (.bool t98_56 : Value) w_43 ∧
  F52_j1 K t98_56 w_43) ∧
  (t93_55 = false →
  F52_j1 K false w_43))) ∧
  (¬ t42_18 = t50_22 →
  F52_j1 K false w_43))) ∧
  (¬ t42_17 = t50_21 →
  F52_j1 K false w_43))) ∧
  (t78_44 = false →
  F52_j1 K false w_43))) ∧
  (¬ t25_8 = t33_13 →
  F52_j1 K false w_43))) ∧
  (¬ t25_7 = t33_12 →
  F52_j1 K false w_43))
set_option maxHeartbeats 4000000 in
set_option maxRecDepth 20000 in
theorem F52_sound (p0_1 : Option Addr) (p0_2 : Option Addr) (tenant1_3 : ByteArray) (w2_4 : Int) (K : Bool → World → Prop) (w : World) (h : F52 p0_1 p0_2 tenant1_3 w2_4 K w) :
    Calls Try.prog 52 #[.agg #[.pointer p0_1, .pointer p0_2], .string tenant1_3, .int .i64 w2_4] w (fun e w1 => ∃ (r0 : Bool), e = .returned (.bool r0 : Value) ∧ K r0 w1) := by
  unfold F52 at h
  refine y_enter (n := 100) (args := [.agg #[.pointer p0_1, .pointer p0_2], .string tenant1_3, .int .i64 w2_4]) Try.func52 rfl rfl rfl fun Q0 hQ0 => ?_
  refine y_seq fun K1 hK1 => ?_
  refine y_region ?_
  refine y_k (.pointer (some (⟨w.heap.size, 0, none⟩ : Addr)) : Value) (w.alloc (.cells #[.pointer p0_1, .pointer p0_2] 98)) rfl rfl rfl (by kernel_rfl) ?_
  replace h := h _ rfl
  generalize w.alloc (.cells #[.pointer p0_1, .pointer p0_2] 98) = w_5 at h ⊢
  refine y_k (.bool false : Value) w_5 rfl rfl rfl (by kernel_rfl) ?_
  refine y_nil ?_
  refine y_then (hK1 _ _ ?_)
  refine y_seq fun K2 hK2 => ?_
  refine y_region ?_
  refine y_k (.pointer (some (⟨w.heap.size, 0, none⟩ : Addr)) : Value) w_5 rfl rfl rfl (by kernel_rfl) ?_
  obtain ⟨t23_6, hx3, h⟩ := h
  refine y_v (s := Instr.loadAt 48 (.pointer (some (⟨w.heap.size, 0, none⟩ : Addr)))) rfl rfl rfl (by kernel_rfl) (rn_load (by kernel_rfl) hx3) ?_
  refine y_k (.string tenant1_3 : Value) w_5 rfl rfl rfl (by kernel_rfl) ?_
  refine y_call rfl rfl rfl (by kernel_rfl) (h.mono ?_)
  rintro _ w_10 ⟨t25_7, t25_8, t25_9, rfl, h⟩
  refine ⟨_, rfl, ?_⟩
  refine y_k (.tuple #[.int .i64 t25_7, .int .i64 t25_8, .bool t25_9] : Value) w_10 rfl rfl rfl (by kernel_rfl) ?_
  refine y_k (.int .i64 t25_7 : Value) w_10 rfl rfl rfl (by kernel_rfl) ?_
  refine y_k (.int .i64 t25_8 : Value) w_10 rfl rfl rfl (by kernel_rfl) ?_
  refine y_k (.bool t25_9 : Value) w_10 rfl rfl rfl (by kernel_rfl) ?_
  refine y_k (.int .i64 t25_7 : Value) w_10 rfl rfl rfl (by kernel_rfl) ?_
  refine y_k (.int .i64 t25_8 : Value) w_10 rfl rfl rfl (by kernel_rfl) ?_
  refine y_k (.bool t25_9 : Value) w_10 rfl rfl rfl (by kernel_rfl) ?_
  refine y_nil ?_
  refine y_then (hK2 _ _ ?_)
  refine y_seq fun K4 hK4 => ?_
  refine y_region ?_
  refine y_k (.pointer (some ((⟨w.heap.size, 0, none⟩ : Addr).add 1)) : Value) w_10 rfl rfl rfl (by kernel_rfl) ?_
  obtain ⟨t31_11, hx5, h⟩ := h
  refine y_v (s := Instr.loadAt 95 (.pointer (some ((⟨w.heap.size, 0, none⟩ : Addr).add 1)))) rfl rfl rfl (by kernel_rfl) (rn_load (by kernel_rfl) hx5) ?_
  refine y_k (.string tenant1_3 : Value) w_10 rfl rfl rfl (by kernel_rfl) ?_
  refine y_call rfl rfl rfl (by kernel_rfl) (h.mono ?_)
  rintro _ w_15 ⟨t33_12, t33_13, t33_14, rfl, h⟩
  refine ⟨_, rfl, ?_⟩
  refine y_k (.tuple #[.int .i64 t33_12, .int .i64 t33_13, .bool t33_14] : Value) w_15 rfl rfl rfl (by kernel_rfl) ?_
  refine y_k (.int .i64 t33_12 : Value) w_15 rfl rfl rfl (by kernel_rfl) ?_
  refine y_k (.int .i64 t33_13 : Value) w_15 rfl rfl rfl (by kernel_rfl) ?_
  refine y_k (.bool t33_14 : Value) w_15 rfl rfl rfl (by kernel_rfl) ?_
  refine y_k (.int .i64 t33_12 : Value) w_15 rfl rfl rfl (by kernel_rfl) ?_
  refine y_k (.int .i64 t33_13 : Value) w_15 rfl rfl rfl (by kernel_rfl) ?_
  refine y_k (.bool t33_14 : Value) w_15 rfl rfl rfl (by kernel_rfl) ?_
  refine y_nil ?_
  refine y_then (hK4 _ _ ?_)
  refine y_seq fun K6 hK6 => ?_
  refine y_region ?_
  refine y_k (.pointer (some (⟨w.heap.size, 0, none⟩ : Addr)) : Value) w_15 rfl rfl rfl (by kernel_rfl) ?_
  obtain ⟨t39_16, hx7, h⟩ := h
  refine y_v (s := Instr.loadAt 48 (.pointer (some (⟨w.heap.size, 0, none⟩ : Addr)))) rfl rfl rfl (by kernel_rfl) (rn_load (by kernel_rfl) hx7) ?_
  refine y_k (.string tenant1_3 : Value) w_15 rfl rfl rfl (by kernel_rfl) ?_
  refine y_k (.int .i64 w2_4 : Value) w_15 rfl rfl rfl (by kernel_rfl) ?_
  refine y_call rfl rfl rfl (by kernel_rfl) (h.mono ?_)
  rintro _ w_19 ⟨t42_17, t42_18, rfl, h⟩
  refine ⟨_, rfl, ?_⟩
  refine y_k (.tuple #[.int .i64 t42_17, .int .i64 t42_18] : Value) w_19 rfl rfl rfl (by kernel_rfl) ?_
  refine y_k (.int .i64 t42_17 : Value) w_19 rfl rfl rfl (by kernel_rfl) ?_
  refine y_k (.int .i64 t42_18 : Value) w_19 rfl rfl rfl (by kernel_rfl) ?_
  refine y_k (.int .i64 t42_17 : Value) w_19 rfl rfl rfl (by kernel_rfl) ?_
  refine y_k (.int .i64 t42_18 : Value) w_19 rfl rfl rfl (by kernel_rfl) ?_
  refine y_nil ?_
  refine y_then (hK6 _ _ ?_)
  refine y_seq fun K8 hK8 => ?_
  refine y_region ?_
  refine y_k (.pointer (some ((⟨w.heap.size, 0, none⟩ : Addr).add 1)) : Value) w_19 rfl rfl rfl (by kernel_rfl) ?_
  obtain ⟨t47_20, hx9, h⟩ := h
  refine y_v (s := Instr.loadAt 95 (.pointer (some ((⟨w.heap.size, 0, none⟩ : Addr).add 1)))) rfl rfl rfl (by kernel_rfl) (rn_load (by kernel_rfl) hx9) ?_
  refine y_k (.string tenant1_3 : Value) w_19 rfl rfl rfl (by kernel_rfl) ?_
  refine y_k (.int .i64 w2_4 : Value) w_19 rfl rfl rfl (by kernel_rfl) ?_
  refine y_call rfl rfl rfl (by kernel_rfl) (h.mono ?_)
  rintro _ w_23 ⟨t50_21, t50_22, rfl, h⟩
  refine ⟨_, rfl, ?_⟩
  refine y_k (.tuple #[.int .i64 t50_21, .int .i64 t50_22] : Value) w_23 rfl rfl rfl (by kernel_rfl) ?_
  refine y_k (.int .i64 t50_21 : Value) w_23 rfl rfl rfl (by kernel_rfl) ?_
  refine y_k (.int .i64 t50_22 : Value) w_23 rfl rfl rfl (by kernel_rfl) ?_
  refine y_k (.int .i64 t50_21 : Value) w_23 rfl rfl rfl (by kernel_rfl) ?_
  refine y_k (.int .i64 t50_22 : Value) w_23 rfl rfl rfl (by kernel_rfl) ?_
  refine y_nil ?_
  refine y_then (hK8 _ _ ?_)
  refine y_seq fun K10 hK10 => ?_
  refine y_region ?_
  refine y_k (.pointer (some (⟨w.heap.size, 0, none⟩ : Addr)) : Value) w_23 rfl rfl rfl (by kernel_rfl) ?_
  obtain ⟨t55_24, hx11, h⟩ := h
  refine y_v (s := Instr.loadAt 48 (.pointer (some (⟨w.heap.size, 0, none⟩ : Addr)))) rfl rfl rfl (by kernel_rfl) (rn_load (by kernel_rfl) hx11) ?_
  refine y_k (.string tenant1_3 : Value) w_23 rfl rfl rfl (by kernel_rfl) ?_
  refine y_call rfl rfl rfl (by kernel_rfl) (h.mono ?_)
  rintro _ w_31 ⟨t57_25, t57_26, t57_27, t57_28, t57_29, t57_30, rfl, h⟩
  refine ⟨_, rfl, ?_⟩
  refine y_k (.tuple #[.agg #[.int .i64 t57_25, .int .i64 t57_26, .int .i64 t57_27, .int .i64 t57_28, .int .i64 t57_29], .bool t57_30] : Value) w_31 rfl rfl rfl (by kernel_rfl) ?_
  refine y_k (.agg #[.int .i64 t57_25, .int .i64 t57_26, .int .i64 t57_27, .int .i64 t57_28, .int .i64 t57_29] : Value) w_31 rfl rfl rfl (by kernel_rfl) ?_
  refine y_k (.bool t57_30 : Value) w_31 rfl rfl rfl (by kernel_rfl) ?_
  refine y_k (.pointer (some (⟨w_31.heap.size, 0, none⟩ : Addr)) : Value) (w_31.alloc (.cells #[.int .i64 0, .int .i64 0, .int .i64 0, .int .i64 0, .int .i64 0] 87)) rfl rfl rfl (by kernel_rfl) ?_
  replace h := h _ rfl
  generalize w_31.alloc (.cells #[.int .i64 0, .int .i64 0, .int .i64 0, .int .i64 0, .int .i64 0] 87) = w_32 at h ⊢
  obtain ⟨hx12, h⟩ := h
  replace h := h _ rfl
  refine y_u (s := Instr.storeAt 87 (.pointer (some (⟨w_31.heap.size, 0, none⟩ : Addr))) (.agg #[.int .i64 t57_25, .int .i64 t57_26, .int .i64 t57_27, .int .i64 t57_28, .int .i64 t57_29] : Value)) rfl rfl (by kernel_rfl) (rn_storecells (k := 5) (cs := [.int .i64 t57_25, .int .i64 t57_26, .int .i64 t57_27, .int .i64 t57_28, .int .i64 t57_29]) (by kernel_rfl) rfl (by simp [Value.oneCell']) hx12) ?_
  generalize setCells w_32 (⟨w_31.heap.size, 0, none⟩ : Addr) 0 [.int .i64 t57_25, .int .i64 t57_26, .int .i64 t57_27, .int .i64 t57_28, .int .i64 t57_29] = w_33 at h ⊢
  refine y_k (.bool t57_30 : Value) w_33 rfl rfl rfl (by kernel_rfl) ?_
  refine y_nil ?_
  refine y_then (hK10 _ _ ?_)
  refine y_seq fun K13 hK13 => ?_
  refine y_region ?_
  refine y_k (.pointer (some ((⟨w.heap.size, 0, none⟩ : Addr).add 1)) : Value) w_33 rfl rfl rfl (by kernel_rfl) ?_
  obtain ⟨t62_34, hx14, h⟩ := h
  refine y_v (s := Instr.loadAt 95 (.pointer (some ((⟨w.heap.size, 0, none⟩ : Addr).add 1)))) rfl rfl rfl (by kernel_rfl) (rn_load (by kernel_rfl) hx14) ?_
  refine y_k (.string tenant1_3 : Value) w_33 rfl rfl rfl (by kernel_rfl) ?_
  refine y_call rfl rfl rfl (by kernel_rfl) (h.mono ?_)
  rintro _ w_41 ⟨t64_35, t64_36, t64_37, t64_38, t64_39, t64_40, rfl, h⟩
  refine ⟨_, rfl, ?_⟩
  refine y_k (.tuple #[.agg #[.int .i64 t64_35, .int .i64 t64_36, .int .i64 t64_37, .int .i64 t64_38, .int .i64 t64_39], .bool t64_40] : Value) w_41 rfl rfl rfl (by kernel_rfl) ?_
  refine y_k (.agg #[.int .i64 t64_35, .int .i64 t64_36, .int .i64 t64_37, .int .i64 t64_38, .int .i64 t64_39] : Value) w_41 rfl rfl rfl (by kernel_rfl) ?_
  refine y_k (.bool t64_40 : Value) w_41 rfl rfl rfl (by kernel_rfl) ?_
  refine y_k (.pointer (some (⟨w_41.heap.size, 0, none⟩ : Addr)) : Value) (w_41.alloc (.cells #[.int .i64 0, .int .i64 0, .int .i64 0, .int .i64 0, .int .i64 0] 87)) rfl rfl rfl (by kernel_rfl) ?_
  replace h := h _ rfl
  generalize w_41.alloc (.cells #[.int .i64 0, .int .i64 0, .int .i64 0, .int .i64 0, .int .i64 0] 87) = w_42 at h ⊢
  obtain ⟨hx15, h⟩ := h
  replace h := h _ rfl
  refine y_u (s := Instr.storeAt 87 (.pointer (some (⟨w_41.heap.size, 0, none⟩ : Addr))) (.agg #[.int .i64 t64_35, .int .i64 t64_36, .int .i64 t64_37, .int .i64 t64_38, .int .i64 t64_39] : Value)) rfl rfl (by kernel_rfl) (rn_storecells (k := 5) (cs := [.int .i64 t64_35, .int .i64 t64_36, .int .i64 t64_37, .int .i64 t64_38, .int .i64 t64_39]) (by kernel_rfl) rfl (by simp [Value.oneCell']) hx15) ?_
  generalize setCells w_42 (⟨w_41.heap.size, 0, none⟩ : Addr) 0 [.int .i64 t64_35, .int .i64 t64_36, .int .i64 t64_37, .int .i64 t64_38, .int .i64 t64_39] = w_43 at h ⊢
  refine y_k (.bool t64_40 : Value) w_43 rfl rfl rfl (by kernel_rfl) ?_
  refine y_nil ?_
  refine y_then (hK13 _ _ ?_)
  refine y_seq fun K16 hK16 => ?_
  have hjK16 : ∀ (f : Fr) (t6_57 : Bool) (w_58 : World), f 6 = (.bool t6_57 : Value) → F52_j1 K t6_57 w_58 → WK K16 100 f w_58 := by
    intro f t6_57 w_58 e6 h
    refine y_atf (upd_id rfl e6) ?_
    clear e6
    unfold F52_j1 at h
    refine hK16 _ _ ?_
    refine y_ret ?_
    repeat (first | refine e_then_r ?_ | refine e_block_r ?_)
    exact (hQ0 _ _ _ (res1 (v := (.bool t6_57 : Value)) rfl rfl rfl) ⟨_, rfl, h⟩).1
  refine y_region ?_
  refine y_k (.int .i64 t25_7 : Value) w_43 rfl rfl rfl (by kernel_rfl) ?_
  refine y_k (.int .i64 t33_12 : Value) w_43 rfl rfl rfl (by kernel_rfl) ?_
  refine y_k (.bool ((t25_7 == t33_12)) : Value) w_43 rfl rfl rfl (by kernel_rfl) ?_
  refine y_k (.bool ((t25_7 == t33_12)) : Value) w_43 rfl rfl rfl (by kernel_rfl) ?_
  refine y_fork ((t25_7 == t33_12)) (fun hb17 => ?_) (fun hb17 => ?_)
  · replace h := h.1 (eq_of_beq hb17)
    refine y_frame (upd_id (i := 70) (v := .bool true) rfl (congrArg Value.bool hb17)) ?_
    refine y_gyes rfl rfl rfl ?_
    refine y_k (.int .i64 t25_8 : Value) w_43 rfl rfl rfl (by kernel_rfl) ?_
    refine y_gyes rfl rfl rfl ?_
    refine y_k (.int .i64 t33_13 : Value) w_43 rfl rfl rfl (by kernel_rfl) ?_
    refine y_gyes rfl rfl rfl ?_
    refine y_k (.bool ((t25_8 == t33_13)) : Value) w_43 rfl rfl rfl (by kernel_rfl) ?_
    refine y_k (.bool ((t25_8 == t33_13)) : Value) w_43 rfl rfl rfl (by kernel_rfl) ?_
    refine y_k (.bool ((t25_8 == t33_13)) : Value) w_43 rfl rfl rfl (by kernel_rfl) ?_
    refine y_fork ((t25_8 == t33_13)) (fun hb18 => ?_) (fun hb18 => ?_)
    · replace h := h.1 (eq_of_beq hb18)
      refine y_frame (upd_id (i := 75) (v := .bool true) rfl (congrArg Value.bool hb18)) ?_
      refine y_gyes rfl rfl rfl ?_
      refine y_k (.bool t25_9 : Value) w_43 rfl rfl rfl (by kernel_rfl) ?_
      refine y_gyes rfl rfl rfl ?_
      refine y_k (.bool t33_14 : Value) w_43 rfl rfl rfl (by kernel_rfl) ?_
      refine y_gyes rfl rfl rfl ?_
      obtain ⟨t78_44, hx19, h⟩ := h
      refine y_v (s := do eqGuard .eql 4 (Operand.tmp 76) (Operand.tmp 77) (.bool t25_9 : Value) (.bool t33_14 : Value); binOp .eql 4 (.bool t25_9 : Value) (.bool t33_14 : Value)) rfl rfl rfl (by kernel_rfl) (hx19) ?_
      refine y_k (.bool t78_44 : Value) w_43 rfl rfl rfl (by kernel_rfl) ?_
      refine y_k (.bool t78_44 : Value) w_43 rfl rfl rfl (by kernel_rfl) ?_
      refine y_fork (t78_44) (fun hb20 => ?_) (fun hb20 => ?_)
      · replace h := h.1 (hb20)
        refine y_frame (upd_id (i := 80) (v := .bool true) rfl (congrArg Value.bool hb20)) ?_
        refine y_gyes rfl rfl rfl ?_
        refine y_k (.int .i64 t42_17 : Value) w_43 rfl rfl rfl (by kernel_rfl) ?_
        refine y_gyes rfl rfl rfl ?_
        refine y_k (.int .i64 t50_21 : Value) w_43 rfl rfl rfl (by kernel_rfl) ?_
        refine y_gyes rfl rfl rfl ?_
        refine y_k (.bool ((t42_17 == t50_21)) : Value) w_43 rfl rfl rfl (by kernel_rfl) ?_
        refine y_k (.bool ((t42_17 == t50_21)) : Value) w_43 rfl rfl rfl (by kernel_rfl) ?_
        refine y_k (.bool ((t42_17 == t50_21)) : Value) w_43 rfl rfl rfl (by kernel_rfl) ?_
        refine y_fork ((t42_17 == t50_21)) (fun hb21 => ?_) (fun hb21 => ?_)
        · replace h := h.1 (eq_of_beq hb21)
          refine y_frame (upd_id (i := 85) (v := .bool true) rfl (congrArg Value.bool hb21)) ?_
          refine y_gyes rfl rfl rfl ?_
          refine y_k (.int .i64 t42_18 : Value) w_43 rfl rfl rfl (by kernel_rfl) ?_
          refine y_gyes rfl rfl rfl ?_
          refine y_k (.int .i64 t50_22 : Value) w_43 rfl rfl rfl (by kernel_rfl) ?_
          refine y_gyes rfl rfl rfl ?_
          refine y_k (.bool ((t42_18 == t50_22)) : Value) w_43 rfl rfl rfl (by kernel_rfl) ?_
          refine y_k (.bool ((t42_18 == t50_22)) : Value) w_43 rfl rfl rfl (by kernel_rfl) ?_
          refine y_k (.bool ((t42_18 == t50_22)) : Value) w_43 rfl rfl rfl (by kernel_rfl) ?_
          refine y_fork ((t42_18 == t50_22)) (fun hb22 => ?_) (fun hb22 => ?_)
          · replace h := h.1 (eq_of_beq hb22)
            refine y_frame (upd_id (i := 90) (v := .bool true) rfl (congrArg Value.bool hb22)) ?_
            refine y_gyes rfl rfl rfl ?_
            obtain ⟨t91_45, t91_46, t91_47, t91_48, t91_49, hx23, h⟩ := h
            refine y_v (s := Instr.loadAt 87 (.pointer (some (⟨w_31.heap.size, 0, none⟩ : Addr)))) rfl rfl rfl (by kernel_rfl) (rn_loadcells (k := 5) ⟨by kernel_rfl, by kernel_rfl⟩ rfl hx23) ?_
            refine y_gyes rfl rfl rfl ?_
            obtain ⟨t92_50, t92_51, t92_52, t92_53, t92_54, hx24, h⟩ := h
            refine y_v (s := Instr.loadAt 87 (.pointer (some (⟨w_41.heap.size, 0, none⟩ : Addr)))) rfl rfl rfl (by kernel_rfl) (rn_loadcells (k := 5) ⟨by kernel_rfl, by kernel_rfl⟩ rfl hx24) ?_
            refine y_gyes rfl rfl rfl ?_
            obtain ⟨t93_55, hx25, h⟩ := h
            refine y_v (s := do eqGuard .eql 87 (Operand.tmp 91) (Operand.tmp 92) (.agg #[.int .i64 t91_45, .int .i64 t91_46, .int .i64 t91_47, .int .i64 t91_48, .int .i64 t91_49] : Value) (.agg #[.int .i64 t92_50, .int .i64 t92_51, .int .i64 t92_52, .int .i64 t92_53, .int .i64 t92_54] : Value); binOp .eql 87 (.agg #[.int .i64 t91_45, .int .i64 t91_46, .int .i64 t91_47, .int .i64 t91_48, .int .i64 t91_49] : Value) (.agg #[.int .i64 t92_50, .int .i64 t92_51, .int .i64 t92_52, .int .i64 t92_53, .int .i64 t92_54] : Value)) rfl rfl rfl (by kernel_rfl) (hx25) ?_
            refine y_k (.bool t93_55 : Value) w_43 rfl rfl rfl (by kernel_rfl) ?_
            refine y_k (.bool t93_55 : Value) w_43 rfl rfl rfl (by kernel_rfl) ?_
            refine y_fork (t93_55) (fun hb26 => ?_) (fun hb26 => ?_)
            · replace h := h.1 (hb26)
              refine y_frame (upd_id (i := 95) (v := .bool true) rfl (congrArg Value.bool hb26)) ?_
              refine y_gyes rfl rfl rfl ?_
              refine y_k (.bool t57_30 : Value) w_43 rfl rfl rfl (by kernel_rfl) ?_
              refine y_gyes rfl rfl rfl ?_
              refine y_k (.bool t64_40 : Value) w_43 rfl rfl rfl (by kernel_rfl) ?_
              refine y_gyes rfl rfl rfl ?_
              obtain ⟨t98_56, hx27, h⟩ := h
              refine y_v (s := do eqGuard .eql 4 (Operand.tmp 96) (Operand.tmp 97) (.bool t57_30 : Value) (.bool t64_40 : Value); binOp .eql 4 (.bool t57_30 : Value) (.bool t64_40 : Value)) rfl rfl rfl (by kernel_rfl) (hx27) ?_
              refine y_k (.bool t98_56 : Value) w_43 rfl rfl rfl (by kernel_rfl) ?_
              refine y_k (.bool t98_56 : Value) w_43 rfl rfl rfl (by kernel_rfl) ?_
              refine y_nil ?_
              exact y_then (hjK16 _ t98_56 w_43 rfl h)
            · replace h := h.2 (hb26)
              refine y_frame (upd_id (i := 95) (v := .bool false) rfl (congrArg Value.bool hb26)) ?_
              refine y_gno rfl rfl rfl rfl ?_
              refine y_gno rfl rfl rfl rfl ?_
              refine y_gno rfl rfl rfl rfl ?_
              refine y_k (.bool false : Value) w_43 rfl rfl rfl (by kernel_rfl) ?_
              refine y_k (.bool false : Value) w_43 rfl rfl rfl (by kernel_rfl) ?_
              refine y_nil ?_
              exact y_then (hjK16 _ false w_43 rfl h)
          · replace h := h.2 (beq_eq_false_iff_ne.mp hb22)
            refine y_frame (upd_id (i := 90) (v := .bool false) rfl (congrArg Value.bool hb22)) ?_
            refine y_gno rfl rfl rfl rfl ?_
            refine y_gno rfl rfl rfl rfl ?_
            refine y_gno rfl rfl rfl rfl ?_
            refine y_k (.bool false : Value) w_43 rfl rfl rfl (by kernel_rfl) ?_
            refine y_k (.bool false : Value) w_43 rfl rfl rfl (by kernel_rfl) ?_
            refine y_gno rfl rfl rfl rfl ?_
            refine y_gno rfl rfl rfl rfl ?_
            refine y_gno rfl rfl rfl rfl ?_
            refine y_k (.bool false : Value) w_43 rfl rfl rfl (by kernel_rfl) ?_
            refine y_k (.bool false : Value) w_43 rfl rfl rfl (by kernel_rfl) ?_
            refine y_nil ?_
            exact y_then (hjK16 _ false w_43 rfl h)
        · replace h := h.2 (beq_eq_false_iff_ne.mp hb21)
          refine y_frame (upd_id (i := 85) (v := .bool false) rfl (congrArg Value.bool hb21)) ?_
          refine y_gno rfl rfl rfl rfl ?_
          refine y_gno rfl rfl rfl rfl ?_
          refine y_gno rfl rfl rfl rfl ?_
          refine y_k (.bool false : Value) w_43 rfl rfl rfl (by kernel_rfl) ?_
          refine y_k (.bool false : Value) w_43 rfl rfl rfl (by kernel_rfl) ?_
          refine y_gno rfl rfl rfl rfl ?_
          refine y_gno rfl rfl rfl rfl ?_
          refine y_gno rfl rfl rfl rfl ?_
          refine y_k (.bool false : Value) w_43 rfl rfl rfl (by kernel_rfl) ?_
          refine y_k (.bool false : Value) w_43 rfl rfl rfl (by kernel_rfl) ?_
          refine y_gno rfl rfl rfl rfl ?_
          refine y_gno rfl rfl rfl rfl ?_
          refine y_gno rfl rfl rfl rfl ?_
          refine y_k (.bool false : Value) w_43 rfl rfl rfl (by kernel_rfl) ?_
          refine y_k (.bool false : Value) w_43 rfl rfl rfl (by kernel_rfl) ?_
          refine y_nil ?_
          exact y_then (hjK16 _ false w_43 rfl h)
      · replace h := h.2 (hb20)
        refine y_frame (upd_id (i := 80) (v := .bool false) rfl (congrArg Value.bool hb20)) ?_
        refine y_gno rfl rfl rfl rfl ?_
        refine y_gno rfl rfl rfl rfl ?_
        refine y_gno rfl rfl rfl rfl ?_
        refine y_k (.bool false : Value) w_43 rfl rfl rfl (by kernel_rfl) ?_
        refine y_k (.bool false : Value) w_43 rfl rfl rfl (by kernel_rfl) ?_
        refine y_gno rfl rfl rfl rfl ?_
        refine y_gno rfl rfl rfl rfl ?_
        refine y_gno rfl rfl rfl rfl ?_
        refine y_k (.bool false : Value) w_43 rfl rfl rfl (by kernel_rfl) ?_
        refine y_k (.bool false : Value) w_43 rfl rfl rfl (by kernel_rfl) ?_
        refine y_gno rfl rfl rfl rfl ?_
        refine y_gno rfl rfl rfl rfl ?_
        refine y_gno rfl rfl rfl rfl ?_
        refine y_k (.bool false : Value) w_43 rfl rfl rfl (by kernel_rfl) ?_
        refine y_k (.bool false : Value) w_43 rfl rfl rfl (by kernel_rfl) ?_
        refine y_gno rfl rfl rfl rfl ?_
        refine y_gno rfl rfl rfl rfl ?_
        refine y_gno rfl rfl rfl rfl ?_
        refine y_k (.bool false : Value) w_43 rfl rfl rfl (by kernel_rfl) ?_
        refine y_k (.bool false : Value) w_43 rfl rfl rfl (by kernel_rfl) ?_
        refine y_nil ?_
        exact y_then (hjK16 _ false w_43 rfl h)
    · replace h := h.2 (beq_eq_false_iff_ne.mp hb18)
      refine y_frame (upd_id (i := 75) (v := .bool false) rfl (congrArg Value.bool hb18)) ?_
      refine y_gno rfl rfl rfl rfl ?_
      refine y_gno rfl rfl rfl rfl ?_
      refine y_gno rfl rfl rfl rfl ?_
      refine y_k (.bool false : Value) w_43 rfl rfl rfl (by kernel_rfl) ?_
      refine y_k (.bool false : Value) w_43 rfl rfl rfl (by kernel_rfl) ?_
      refine y_gno rfl rfl rfl rfl ?_
      refine y_gno rfl rfl rfl rfl ?_
      refine y_gno rfl rfl rfl rfl ?_
      refine y_k (.bool false : Value) w_43 rfl rfl rfl (by kernel_rfl) ?_
      refine y_k (.bool false : Value) w_43 rfl rfl rfl (by kernel_rfl) ?_
      refine y_gno rfl rfl rfl rfl ?_
      refine y_gno rfl rfl rfl rfl ?_
      refine y_gno rfl rfl rfl rfl ?_
      refine y_k (.bool false : Value) w_43 rfl rfl rfl (by kernel_rfl) ?_
      refine y_k (.bool false : Value) w_43 rfl rfl rfl (by kernel_rfl) ?_
      refine y_gno rfl rfl rfl rfl ?_
      refine y_gno rfl rfl rfl rfl ?_
      refine y_gno rfl rfl rfl rfl ?_
      refine y_k (.bool false : Value) w_43 rfl rfl rfl (by kernel_rfl) ?_
      refine y_k (.bool false : Value) w_43 rfl rfl rfl (by kernel_rfl) ?_
      refine y_gno rfl rfl rfl rfl ?_
      refine y_gno rfl rfl rfl rfl ?_
      refine y_gno rfl rfl rfl rfl ?_
      refine y_k (.bool false : Value) w_43 rfl rfl rfl (by kernel_rfl) ?_
      refine y_k (.bool false : Value) w_43 rfl rfl rfl (by kernel_rfl) ?_
      refine y_nil ?_
      exact y_then (hjK16 _ false w_43 rfl h)
  · replace h := h.2 (beq_eq_false_iff_ne.mp hb17)
    refine y_frame (upd_id (i := 70) (v := .bool false) rfl (congrArg Value.bool hb17)) ?_
    refine y_gno rfl rfl rfl rfl ?_
    refine y_gno rfl rfl rfl rfl ?_
    refine y_gno rfl rfl rfl rfl ?_
    refine y_k (.bool false : Value) w_43 rfl rfl rfl (by kernel_rfl) ?_
    refine y_k (.bool false : Value) w_43 rfl rfl rfl (by kernel_rfl) ?_
    refine y_gno rfl rfl rfl rfl ?_
    refine y_gno rfl rfl rfl rfl ?_
    refine y_gno rfl rfl rfl rfl ?_
    refine y_k (.bool false : Value) w_43 rfl rfl rfl (by kernel_rfl) ?_
    refine y_k (.bool false : Value) w_43 rfl rfl rfl (by kernel_rfl) ?_
    refine y_gno rfl rfl rfl rfl ?_
    refine y_gno rfl rfl rfl rfl ?_
    refine y_gno rfl rfl rfl rfl ?_
    refine y_k (.bool false : Value) w_43 rfl rfl rfl (by kernel_rfl) ?_
    refine y_k (.bool false : Value) w_43 rfl rfl rfl (by kernel_rfl) ?_
    refine y_gno rfl rfl rfl rfl ?_
    refine y_gno rfl rfl rfl rfl ?_
    refine y_gno rfl rfl rfl rfl ?_
    refine y_k (.bool false : Value) w_43 rfl rfl rfl (by kernel_rfl) ?_
    refine y_k (.bool false : Value) w_43 rfl rfl rfl (by kernel_rfl) ?_
    refine y_gno rfl rfl rfl rfl ?_
    refine y_gno rfl rfl rfl rfl ?_
    refine y_gno rfl rfl rfl rfl ?_
    refine y_k (.bool false : Value) w_43 rfl rfl rfl (by kernel_rfl) ?_
    refine y_k (.bool false : Value) w_43 rfl rfl rfl (by kernel_rfl) ?_
    refine y_gno rfl rfl rfl rfl ?_
    refine y_gno rfl rfl rfl rfl ?_
    refine y_gno rfl rfl rfl rfl ?_
    refine y_k (.bool false : Value) w_43 rfl rfl rfl (by kernel_rfl) ?_
    refine y_k (.bool false : Value) w_43 rfl rfl rfl (by kernel_rfl) ?_
    refine y_nil ?_
    exact y_then (hjK16 _ false w_43 rfl h)

end Go.Proofs.Ythhcaaellhdkiaa
