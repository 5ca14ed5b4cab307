/- Printed by gen.py (own program, wip/): for each Go function a predicate transformer and its soundness. -/
import Derived.Test.YthhcaaellhdkiaaProg
import Derived.Test.YthhcaaellhdkiaaST
namespace Go.Proofs.Ythhcaaellhdkiaa
open Go Go.RowKit Go.Proofs.Ythhcaaellhdkiaa.SX
set_option linter.unusedVariables false

def F10_j2 (i8_9 : Int) (next15 : (Int) → World → Prop) (w_26 : World) : Prop :=
  next15 (IntKind.i64.wrap (i8_9 + 1)) w_26
def F10_j3 (tenant0_1 : ByteArray) (K : Bool → World → Prop) (t22_5 : Option Addr) (t23_7 : Option Addr) (i8_9 : Int) (next15 : (Int) → World → Prop) (w_10 : World) (t52_27 : ByteArray) (x10_39 : Int) (y11_40 : Int) (w_41 : World) : Prop :=
  ∃ (t130_42 : Int), w_41.cell? ((⟨w_10.heap.size, 0, none⟩ : Addr).add 3) = some (.int .i64 t130_42) ∧
  Calls Try.prog 30 #[.pointer t22_5, .string tenant0_1, .int .i64 t130_42] w_41 fun e w_45 => ∃ (t131_43 : Int), ∃ (t131_44 : Int), e = .returned (.tuple #[.int .i64 t131_43, .int .i64 t131_44] : Value) ∧
  ∃ (t138_46 : Int), w_45.cell? ((⟨w_10.heap.size, 0, none⟩ : Addr).add 3) = some (.int .i64 t138_46) ∧
  Calls Try.prog 30 #[.pointer t23_7, .string tenant0_1, .int .i64 t138_46] w_45 fun e w_49 => ∃ (t139_47 : Int), ∃ (t139_48 : Int), e = .returned (.tuple #[.int .i64 t139_47, .int .i64 t139_48] : Value) ∧
  Calls Try.prog 49 #[.pointer t22_5, .string tenant0_1] w_49 fun e w_56 => ∃ (t145_50 : Int), ∃ (t145_51 : Int), ∃ (t145_52 : Int), ∃ (t145_53 : Int), ∃ (t145_54 : Int), ∃ (t145_55 : Bool), e = .returned (.tuple #[.agg #[.int .i64 t145_50, .int .i64 t145_51, .int .i64 t145_52, .int .i64 t145_53, .int .i64 t145_54], .bool t145_55] : Value) ∧
  ∀ (w_57 : World), w_57 = w_56.alloc (.cells #[.int .i64 0, .int .i64 0, .int .i64 0, .int .i64 0, .int .i64 0] 87) →
  HasCells w_57 (⟨w_56.heap.size, 0, none⟩ : Addr) 0 5 ∧ ∀ (w_58 : World), w_58 = setCells w_57 (⟨w_56.heap.size, 0, none⟩ : Addr) 0 [.int .i64 t145_50, .int .i64 t145_51, .int .i64 t145_52, .int .i64 t145_53, .int .i64 t145_54] →
  Calls Try.prog 49 #[.pointer t23_7, .string tenant0_1] w_58 fun e w_65 => ∃ (t151_59 : Int), ∃ (t151_60 : Int), ∃ (t151_61 : Int), ∃ (t151_62 : Int), ∃ (t151_63 : Int), ∃ (t151_64 : Bool), e = .returned (.tuple #[.agg #[.int .i64 t151_59, .int .i64 t151_60, .int .i64 t151_61, .int .i64 t151_62, .int .i64 t151_63], .bool t151_64] : Value) ∧
  ∀ (w_66 : World), w_66 = w_65.alloc (.cells #[.int .i64 0, .int .i64 0, .int .i64 0, .int .i64 0, .int .i64 0] 87) →
  HasCells w_66 (⟨w_65.heap.size, 0, none⟩ : Addr) 0 5 ∧ ∀ (w_67 : World), w_67 = setCells w_66 (⟨w_65.heap.size, 0, none⟩ : Addr) 0 [.int .i64 t151_59, .int .i64 t151_60, .int .i64 t151_61, .int .i64 t151_62, .int .i64 t151_63] →
  ((t52_27.toList = tenant0_1.toList →
  ((¬ x10_39 = y11_40 →
  K false w_67) ∧
  (x10_39 = y11_40 →
  ((¬ t131_43 = t139_47 →
  K false w_67) ∧
  (t131_43 = t139_47 →
  ((¬ t131_44 = t139_48 →
  K false w_67) ∧
  (t131_44 = t139_48 →
  ∃ (t171_68 : Int), ∃ (t171_69 : Int), ∃ (t171_70 : Int), ∃ (t171_71 : Int), ∃ (t171_72 : Int), CellsAt w_67 (⟨w_56.heap.size, 0, none⟩ : Addr) 0 [.int .i64 t171_68, .int .i64 t171_69, .int .i64 t171_70, .int .i64 t171_71, .int .i64 t171_72] ∧
  ∃ (t172_73 : Int), ∃ (t172_74 : Int), ∃ (t172_75 : Int), ∃ (t172_76 : Int), ∃ (t172_77 : Int), CellsAt w_67 (⟨w_65.heap.size, 0, none⟩ : Addr) 0 [.int .i64 t172_73, .int .i64 t172_74, .int .i64 t172_75, .int .i64 t172_76, .int .i64 t172_77] ∧
  ∃ (t173_78 : Bool), (do eqGuard .neq 87 (Operand.tmp 171) (Operand.tmp 172) (.agg #[.int .i64 t171_68, .int .i64 t171_69, .int .i64 t171_70, .int .i64 t171_71, .int .i64 t171_72] : Value) (.agg #[.int .i64 t172_73, .int .i64 t172_74, .int .i64 t172_75, .int .i64 t172_76, .int .i64 t172_77] : Value); binOp .neq 87 (.agg #[.int .i64 t171_68, .int .i64 t171_69, .int .i64 t171_70, .int .i64 t171_71, .int .i64 t171_72] : Value) (.agg #[.int .i64 t172_73, .int .i64 t172_74, .int .i64 t172_75, .int .i64 t172_76, .int .i64 t172_77] : Value)).run Try.prog w_67 = .ok (.bool t173_78 : Value) w_67 ∧
  ((t173_78 = true →
  K false w_67) ∧
  (t173_78 = false →
  ∃ (t178_79 : Bool), (do eqGuard .neq 4 (Operand.tmp 176) (Operand.tmp 177) (.bool t145_55 : Value) (.bool t151_64 : Value); binOp .neq 4 (.bool t145_55 : Value) (.bool t151_64 : Value)).run Try.prog w_67 = .ok (.bool t178_79 : Value) w_67 ∧
  ((t178_79 = true →
  K false w_67) ∧
  (t178_79 = false →
  F10_j2 i8_9 next15 w_67))))))))))) ∧
  (¬ t52_27.toList = tenant0_1.toList →
  ((¬ t131_43 = t139_47 →
  K false w_67) ∧
  (t131_43 = t139_47 →
  ((¬ t131_44 = t139_48 →
  K false w_67) ∧
  (t131_44 = t139_48 →
  ∃ (t171_80 : Int), ∃ (t171_81 : Int), ∃ (t171_82 : Int), ∃ (t171_83 : Int), ∃ (t171_84 : Int), CellsAt w_67 (⟨w_56.heap.size, 0, none⟩ : Addr) 0 [.int .i64 t171_80, .int .i64 t171_81, .int .i64 t171_82, .int .i64 t171_83, .int .i64 t171_84] ∧
  ∃ (t172_85 : Int), ∃ (t172_86 : Int), ∃ (t172_87 : Int), ∃ (t172_88 : Int), ∃ (t172_89 : Int), CellsAt w_67 (⟨w_65.heap.size, 0, none⟩ : Addr) 0 [.int .i64 t172_85, .int .i64 t172_86, .int .i64 t172_87, .int .i64 t172_88, .int .i64 t172_89] ∧
  ∃ (t173_90 : Bool), (do eqGuard .neq 87 (Operand.tmp 171) (Operand.tmp 172) (.agg #[.int .i64 t171_80, .int .i64 t171_81, .int .i64 t171_82, .int .i64 t171_83, .int .i64 t171_84] : Value) (.agg #[.int .i64 t172_85, .int .i64 t172_86, .int .i64 t172_87, .int .i64 t172_88, .int .i64 t172_89] : Value); binOp .neq 87 (.agg #[.int .i64 t171_80, .int .i64 t171_81, .int .i64 t171_82, .int .i64 t171_83, .int .i64 t171_84] : Value) (.agg #[.int .i64 t172_85, .int .i64 t172_86, .int .i64 t172_87, .int .i64 t172_88, .int .i64 t172_89] : Value)).run Try.prog w_67 = .ok (.bool t173_90 : Value) w_67 ∧
  ((t173_90 = true →
  K false w_67) ∧
  (t173_90 = false →
  ∃ (t178_91 : Bool), (do eqGuard .neq 4 (Operand.tmp 176) (Operand.tmp 177) (.bool t145_55 : Value) (.bool t151_64 : Value); binOp .neq 4 (.bool t145_55 : Value) (.bool t151_64 : Value)).run Try.prog w_67 = .ok (.bool t178_91 : Value) w_67 ∧
  ((t178_91 = true →
  K false w_67) ∧
  (t178_91 = false →
  F10_j2 i8_9 next15 w_67))))))))))
def F10_j4 (tenant0_1 : ByteArray) (K : Bool → World → Prop) (t22_5 : Option Addr) (t23_7 : Option Addr) (i8_9 : Int) (next15 : (Int) → World → Prop) (w_10 : World) (t52_27 : ByteArray) (t56_28 : Int) (t87_98 : Bool) (w_99 : World) : Prop :=
  ((t87_98 = true →
  ∃ (t92_100 : ByteArray), w_99.cell? ((⟨w_10.heap.size, 0, none⟩ : Addr).add 2) = some (.string t92_100) ∧
  ∃ (t94_101 : Int), w_99.cell? ((⟨w_10.heap.size, 0, none⟩ : Addr).add 3) = some (.int .i64 t94_101) ∧
  ∃ (t96_102 : Int), w_99.cell? ((⟨w_10.heap.size, 0, none⟩ : Addr).add 4) = some (.int .i64 t96_102) ∧
  ∃ (t98_103 : Int), w_99.cell? ((⟨w_10.heap.size, 0, none⟩ : Addr).add 5) = some (.int .i64 t98_103) ∧
  Calls Try.prog 31 #[.pointer t22_5, .string t92_100, .int .i64 t94_101, .int .i64 t96_102, .int .i64 t98_103] w_99 fun e w_105 => ∃ (t99_104 : Int), e = .returned (.int .i64 t99_104 : Value) ∧
  ((t52_27.toList = tenant0_1.toList →
  ∃ (t103_106 : ByteArray), w_105.cell? ((⟨w_10.heap.size, 0, none⟩ : Addr).add 2) = some (.string t103_106) ∧
  ∃ (t105_107 : Int), w_105.cell? ((⟨w_10.heap.size, 0, none⟩ : Addr).add 3) = some (.int .i64 t105_107) ∧
  ∃ (t107_108 : Int), w_105.cell? ((⟨w_10.heap.size, 0, none⟩ : Addr).add 4) = some (.int .i64 t107_108) ∧
  ∃ (t109_109 : Int), w_105.cell? ((⟨w_10.heap.size, 0, none⟩ : Addr).add 5) = some (.int .i64 t109_109) ∧
  Calls Try.prog 31 #[.pointer t23_7, .string t103_106, .int .i64 t105_107, .int .i64 t107_108, .int .i64 t109_109] w_105 fun e w_111 => ∃ (t110_110 : Int), e = .returned (.int .i64 t110_110 : Value) ∧
  F10_j3 tenant0_1 K t22_5 t23_7 i8_9 next15 w_10 t52_27 t99_104 t110_110 w_111) ∧
  (¬ t52_27.toList = tenant0_1.toList →
  F10_j3 tenant0_1 K t22_5 t23_7 i8_9 next15 w_10 t52_27 t99_104 0 w_105))) ∧
  (t87_98 = false →
  ((t56_28 = 4 →
  ∃ (t115_112 : ByteArray), w_99.cell? ((⟨w_10.heap.size, 0, none⟩ : Addr).add 2) = some (.string t115_112) ∧
  ∃ (t117_113 : Int), ∃ (t117_114 : Int), ∃ (t117_115 : Int), ∃ (t117_116 : Int), ∃ (t117_117 : Int), CellsAt w_99 ((⟨w_10.heap.size, 0, none⟩ : Addr).add 6) 0 [.int .i64 t117_113, .int .i64 t117_114, .int .i64 t117_115, .int .i64 t117_116, .int .i64 t117_117] ∧
  Calls Try.prog 48 #[.pointer t22_5, .string t115_112, .agg #[.int .i64 t117_113, .int .i64 t117_114, .int .i64 t117_115, .int .i64 t117_116, .int .i64 t117_117]] w_99 fun e w_119 => ∃ (t118_118 : Int), e = .returned (.int .i64 t118_118 : Value) ∧
  ((t52_27.toList = tenant0_1.toList →
  ∃ (t122_120 : ByteArray), w_119.cell? ((⟨w_10.heap.size, 0, none⟩ : Addr).add 2) = some (.string t122_120) ∧
  ∃ (t124_121 : Int), ∃ (t124_122 : Int), ∃ (t124_123 : Int), ∃ (t124_124 : Int), ∃ (t124_125 : Int), CellsAt w_119 ((⟨w_10.heap.size, 0, none⟩ : Addr).add 6) 0 [.int .i64 t124_121, .int .i64 t124_122, .int .i64 t124_123, .int .i64 t124_124, .int .i64 t124_125] ∧
  Calls Try.prog 48 #[.pointer t23_7, .string t122_120, .agg #[.int .i64 t124_121, .int .i64 t124_122, .int .i64 t124_123, .int .i64 t124_124, .int .i64 t124_125]] w_119 fun e w_127 => ∃ (t125_126 : Int), e = .returned (.int .i64 t125_126 : Value) ∧
  F10_j3 tenant0_1 K t22_5 t23_7 i8_9 next15 w_10 t52_27 t118_118 t125_126 w_127) ∧
  (¬ t52_27.toList = tenant0_1.toList →
  F10_j3 tenant0_1 K t22_5 t23_7 i8_9 next15 w_10 t52_27 t118_118 0 w_119))) ∧
  (¬ t56_28 = 4 →
  F10_j3 tenant0_1 K t22_5 t23_7 i8_9 next15 w_10 t52_27 0 0 w_99))))
def F10_l1 (tenant0_1 : ByteArray) (script1_2 : Sl) (K : Bool → World → Prop) (t22_5 : Option Addr) (t23_7 : Option Addr) (next15 : (Int) → World → Prop) : (Int) → World → Prop := fun (i8_9) w_10 =>
  ((i8_9 < ((script1_2.n : Int)) →
  ((i8_9 < 2000 →
  (0 : Int) ≤ i8_9 ∧ i8_9 < (script1_2.n : Int) ∧ ∃ (a_11 : Addr), script1_2.a = some a_11 ∧
  ∃ (t47_12 : Int), ∃ (t47_13 : Int), ∃ (t47_14 : ByteArray), ∃ (t47_15 : Int), ∃ (t47_16 : Int), ∃ (t47_17 : Int), ∃ (t47_18 : Int), ∃ (t47_19 : Int), ∃ (t47_20 : Int), ∃ (t47_21 : Int), ∃ (t47_22 : Int), CellsAt w_10 (a_11.add (Int.toNat i8_9 * 11)) 0 [.int .i64 t47_12, .int .i64 t47_13, .string t47_14, .int .i64 t47_15, .int .i64 t47_16, .int .i64 t47_17, .int .i64 t47_18, .int .i64 t47_19, .int .i64 t47_20, .int .i64 t47_21, .int .i64 t47_22] ∧
  ∀ (w_23 : World), w_23 = w_10.alloc (.cells #[.int .i64 0, .int .i64 0, .string ByteArray.empty, .int .i64 0, .int .i64 0, .int .i64 0, .int .i64 0, .int .i64 0, .int .i64 0, .int .i64 0, .int .i64 0] 89) →
  HasCells w_23 (⟨w_10.heap.size, 0, none⟩ : Addr) 0 11 ∧ ∀ (w_24 : World), w_24 = setCells w_23 (⟨w_10.heap.size, 0, none⟩ : Addr) 0 [.int .i64 t47_12, .int .i64 t47_13, .string t47_14, .int .i64 t47_15, .int .i64 t47_16, .int .i64 t47_17, .int .i64 t47_18, .int .i64 t47_19, .int .i64 t47_20, .int .i64 t47_21, .int .i64 t47_22] →
  ∃ (t49_25 : Int), w_24.cell? (⟨w_10.heap.size, 0, none⟩ : Addr) = some (.int .i64 t49_25) ∧
  ((t49_25 = 5 →
  F10_j2 i8_9 next15 w_24) ∧
  (¬ t49_25 = 5 →
  ∃ (t52_27 : ByteArray), w_24.cell? ((⟨w_10.heap.size, 0, none⟩ : Addr).add 2) = some (.string t52_27) ∧
  ∃ (t56_28 : Int), w_24.cell? (⟨w_10.heap.size, 0, none⟩ : Addr) = some (.int .i64 t56_28) ∧
  ((t56_28 = 0 →
  ∃ (t61_29 : ByteArray), w_24.cell? ((⟨w_10.heap.size, 0, none⟩ : Addr).add 2) = some (.string t61_29) ∧
  ∃ (t63_30 : Int), w_24.cell? ((⟨w_10.heap.size, 0, none⟩ : Addr).add 4) = some (.int .i64 t63_30) ∧
  ∃ (t65_31 : Int), w_24.cell? ((⟨w_10.heap.size, 0, none⟩ : Addr).add 5) = some (.int .i64 t65_31) ∧
  Calls Try.prog 29 #[.pointer t22_5, .string t61_29, .int .i64 t63_30, .int .i64 t65_31] w_24 fun e w_33 => ∃ (t66_32 : Int), e = .returned (.int .i64 t66_32 : Value) ∧
  ((t52_27.toList = tenant0_1.toList →
  ∃ (t70_34 : ByteArray), w_33.cell? ((⟨w_10.heap.size, 0, none⟩ : Addr).add 2) = some (.string t70_34) ∧
  ∃ (t72_35 : Int), w_33.cell? ((⟨w_10.heap.size, 0, none⟩ : Addr).add 4) = some (.int .i64 t72_35) ∧
  ∃ (t74_36 : Int), w_33.cell? ((⟨w_10.heap.size, 0, none⟩ : Addr).add 5) = some (.int .i64 t74_36) ∧
  Calls Try.prog 29 #[.pointer t23_7, .string t70_34, .int .i64 t72_35, .int .i64 t74_36] w_33 fun e w_38 => ∃ (t75_37 : Int), e = .returned (.int .i64 t75_37 : Value) ∧
  F10_j3 tenant0_1 K t22_5 t23_7 i8_9 next15 w_10 t52_27 t66_32 t75_37 w_38) ∧
  (¬ t52_27.toList = tenant0_1.toList →
  F10_j3 tenant0_1 K t22_5 t23_7 i8_9 next15 w_10 t52_27 t66_32 0 w_33))) ∧
  (¬ t56_28 = 0 →
  ((t56_28 = 1 →
  ∃ (t80_92 : ByteArray), w_24.cell? ((⟨w_10.heap.size, 0, none⟩ : Addr).add 2) = some (.string t80_92) ∧
  Calls Try.prog 47 #[.pointer t22_5, .string t80_92] w_24 fun e w_94 => ∃ (t81_93 : Bool), e = .returned (.bool t81_93 : Value) ∧
  ((t52_27.toList = tenant0_1.toList →
  ∃ (t85_95 : ByteArray), w_94.cell? ((⟨w_10.heap.size, 0, none⟩ : Addr).add 2) = some (.string t85_95) ∧
  Calls Try.prog 47 #[.pointer t23_7, .string t85_95] w_94 fun e w_97 => ∃ (t86_96 : Bool), e = .returned (.bool t86_96 : Value) ∧
  F10_j3 tenant0_1 K t22_5 t23_7 i8_9 next15 w_10 t52_27 0 0 w_97) ∧
  (¬ t52_27.toList = tenant0_1.toList →
  F10_j3 tenant0_1 K t22_5 t23_7 i8_9 next15 w_10 t52_27 0 0 w_94))) ∧
  (¬ t56_28 = 1 →
  ((t56_28 = 2 →
  F10_j4 tenant0_1 K t22_5 t23_7 i8_9 next15 w_10 t52_27 t56_28 ((t56_28 == 2)) w_24) ∧
  (¬ t56_28 = 2 →
  F10_j4 tenant0_1 K t22_5 t23_7 i8_9 next15 w_10 t52_27 t56_28 ((t56_28 == 3)) w_24))))))))) ∧
  (¬ (i8_9 < 2000) →
  K true w_10))) ∧
  (¬ (i8_9 < ((script1_2.n : Int))) →
  K true w_10))
/-- turnkey/turnkeylaw15.QuotaApart -/
def F10 (tenant0_1 : ByteArray) (script1_2 : Sl) (K : Bool → World → Prop) (w : World) : Prop :=
  Calls Try.prog 27 #[] w fun e w_4 => ∃ (t21_3 : Bool), e = .returned (.bool t21_3 : Value) ∧
  Calls Try.prog 28 #[] w_4 fun e w_6 => ∃ (t22_5 : Option Addr), e = .returned (.pointer t22_5 : Value) ∧
  Calls Try.prog 28 #[] w_6 fun e w_8 => ∃ (t23_7 : Option Addr), e = .returned (.pointer t23_7 : Value) ∧
  ((t21_3 = false →
  K false w_8) ∧
  (t21_3 = true →
  ((t22_5.isNone = true →
  K false w_8) ∧
  (t22_5.isNone = false →
  ((t23_7.isNone = true →
  K false w_8) ∧
  (t23_7.isNone = false →
  kLoop (F10_l1 tenant0_1 script1_2 K t22_5 t23_7) (0) w_8))))))
set_option maxHeartbeats 4000000 in
set_option maxRecDepth 20000 in
theorem F10_sound (tenant0_1 : ByteArray) (script1_2 : Sl) (K : Bool → World → Prop) (w : World) (h : F10 tenant0_1 script1_2 K w) :
    Calls Try.prog 10 #[.string tenant0_1, .slice script1_2.a script1_2.n script1_2.c] w (fun e w1 => ∃ (r0 : Bool), e = .returned (.bool r0 : Value) ∧ K r0 w1) := by
  unfold F10 at h
  refine y_enter (n := 180) (args := [.string tenant0_1, .slice script1_2.a script1_2.n script1_2.c]) Try.func10 rfl rfl rfl fun Q0 hQ0 => ?_
  refine y_seq fun K1 hK1 => ?_
  refine y_region ?_
  refine y_k (.bool false : Value) w rfl rfl rfl (by kernel_rfl) ?_
  refine y_nil ?_
  refine y_then (hK1 _ _ ?_)
  refine y_seq fun K2 hK2 => ?_
  refine y_region ?_
  refine y_call rfl rfl rfl (by kernel_rfl) (h.mono ?_)
  rintro _ w_4 ⟨t21_3, rfl, h⟩
  refine ⟨_, rfl, ?_⟩
  refine y_k (.bool t21_3 : Value) w_4 rfl rfl rfl (by kernel_rfl) ?_
  refine y_nil ?_
  refine y_then (hK2 _ _ ?_)
  refine y_seq fun K3 hK3 => ?_
  refine y_region ?_
  refine y_call rfl rfl rfl (by kernel_rfl) (h.mono ?_)
  rintro _ w_6 ⟨t22_5, rfl, h⟩
  refine ⟨_, rfl, ?_⟩
  refine y_k (.pointer t22_5 : Value) w_6 rfl rfl rfl (by kernel_rfl) ?_
  refine y_nil ?_
  refine y_then (hK3 _ _ ?_)
  refine y_seq fun K4 hK4 => ?_
  refine y_region ?_
  refine y_call rfl rfl rfl (by kernel_rfl) (h.mono ?_)
  rintro _ w_8 ⟨t23_7, rfl, h⟩
  refine ⟨_, rfl, ?_⟩
  refine y_k (.pointer t23_7 : Value) w_8 rfl rfl rfl (by kernel_rfl) ?_
  refine y_nil ?_
  refine y_then (hK4 _ _ ?_)
  refine y_seq fun K5 hK5 => ?_
  refine y_seq fun K6 hK6 => ?_
  refine y_region ?_
  refine y_k (.bool t21_3 : Value) w_8 rfl rfl rfl (by kernel_rfl) ?_
  refine y_k (.bool (!(t21_3)) : Value) w_8 rfl rfl rfl (by kernel_rfl) ?_
  refine y_k (.bool (!(t21_3)) : Value) w_8 rfl rfl rfl (by kernel_rfl) ?_
  refine y_fork (!(t21_3)) (fun hb7 => ?_) (fun hb7 => ?_)
  · replace h := h.1 ((not_true_of hb7))
    refine y_frame (upd_id (i := 26) (v := .bool true) rfl (congrArg Value.bool hb7)) ?_
    refine y_gno rfl rfl rfl rfl ?_
    refine y_gno rfl rfl rfl rfl ?_
    refine y_k (.bool true : Value) w_8 rfl rfl rfl (by kernel_rfl) ?_
    refine y_k (.bool true : Value) w_8 rfl rfl rfl (by kernel_rfl) ?_
    refine y_gno rfl rfl rfl rfl ?_
    refine y_gno rfl rfl rfl rfl ?_
    refine y_k (.bool true : Value) w_8 rfl rfl rfl (by kernel_rfl) ?_
    refine y_nil ?_
    refine y_then (hK6 _ _ ?_)
    refine y_cond_t rfl rfl ?_
    refine y_seq fun K8 hK8 => ?_
    refine y_region ?_
    refine y_k (.bool false : Value) w_8 rfl rfl rfl (by kernel_rfl) ?_
    refine y_nil ?_
    refine y_then (hK8 _ _ ?_)
    refine y_ret ?_
    repeat (first | refine e_then_r ?_ | refine e_block_r ?_)
    exact (hQ0 _ _ _ (res1 (v := (.bool false : Value)) rfl rfl rfl) ⟨_, rfl, h⟩).1
  · replace h := h.2 ((not_false_of hb7))
    refine y_frame (upd_id (i := 26) (v := .bool false) rfl (congrArg Value.bool hb7)) ?_
    refine y_gyes rfl rfl rfl ?_
    refine y_k (.pointer t22_5 : Value) w_8 rfl rfl rfl (by kernel_rfl) ?_
    refine y_gyes rfl rfl rfl ?_
    refine y_v (v := (.bool t22_5.isNone : Value)) (s := do eqGuard .eql 48 (Operand.tmp 27) (Operand.const (Value.pointer none)) (.pointer t22_5 : Value) (.pointer none : Value); binOp .eql 48 (.pointer t22_5 : Value) (.pointer none : Value)) rfl rfl rfl (by kernel_rfl) (run_eql_ptrnil (by kernel_rfl)) ?_
    refine y_k (.bool t22_5.isNone : Value) w_8 rfl rfl rfl (by kernel_rfl) ?_
    refine y_k (.bool t22_5.isNone : Value) w_8 rfl rfl rfl (by kernel_rfl) ?_
    refine y_fork (t22_5.isNone) (fun hb9 => ?_) (fun hb9 => ?_)
    · replace h := h.1 (hb9)
      refine y_frame (upd_id (i := 30) (v := .bool true) rfl (congrArg Value.bool hb9)) ?_
      refine y_gno rfl rfl rfl rfl ?_
      refine y_gno rfl rfl rfl rfl ?_
      refine y_k (.bool true : Value) w_8 rfl rfl rfl (by kernel_rfl) ?_
      refine y_nil ?_
      refine y_then (hK6 _ _ ?_)
      refine y_cond_t rfl rfl ?_
      refine y_seq fun K10 hK10 => ?_
      refine y_region ?_
      refine y_k (.bool false : Value) w_8 rfl rfl rfl (by kernel_rfl) ?_
      refine y_nil ?_
      refine y_then (hK10 _ _ ?_)
      refine y_ret ?_
      repeat (first | refine e_then_r ?_ | refine e_block_r ?_)
      exact (hQ0 _ _ _ (res1 (v := (.bool false : Value)) rfl rfl rfl) ⟨_, rfl, h⟩).1
    · replace h := h.2 (hb9)
      refine y_frame (upd_id (i := 30) (v := .bool false) rfl (congrArg Value.bool hb9)) ?_
      refine y_gyes rfl rfl rfl ?_
      refine y_k (.pointer t23_7 : Value) w_8 rfl rfl rfl (by kernel_rfl) ?_
      refine y_gyes rfl rfl rfl ?_
      refine y_v (v := (.bool t23_7.isNone : Value)) (s := do eqGuard .eql 48 (Operand.tmp 31) (Operand.const (Value.pointer none)) (.pointer t23_7 : Value) (.pointer none : Value); binOp .eql 48 (.pointer t23_7 : Value) (.pointer none : Value)) rfl rfl rfl (by kernel_rfl) (run_eql_ptrnil (by kernel_rfl)) ?_
      refine y_k (.bool t23_7.isNone : Value) w_8 rfl rfl rfl (by kernel_rfl) ?_
      refine y_nil ?_
      refine y_then (hK6 _ _ ?_)
      refine y_cond (t23_7.isNone) rfl rfl (fun hb119 => ?_) (fun hb119 => ?_)
      · replace h := h.1 (hb119)
        refine y_seq fun K11 hK11 => ?_
        refine y_region ?_
        refine y_k (.bool false : Value) w_8 rfl rfl rfl (by kernel_rfl) ?_
        refine y_nil ?_
        refine y_then (hK11 _ _ ?_)
        refine y_ret ?_
        repeat (first | refine e_then_r ?_ | refine e_block_r ?_)
        exact (hQ0 _ _ _ (res1 (v := (.bool false : Value)) rfl rfl rfl) ⟨_, rfl, h⟩).1
      · replace h := h.2 (hb119)
        refine y_skip ?_
        refine y_then (hK5 _ _ ?_)
        refine y_seq fun K12 hK12 => ?_
        refine y_seq fun K13 hK13 => ?_
        refine y_region ?_
        refine y_k (.int .i64 0 : Value) w_8 rfl rfl rfl (by kernel_rfl) ?_
        refine y_nil ?_
        refine y_then (hK13 _ _ ?_)
        refine y_block ?_
        refine y_loop (S := Int) (fun s j => match s with | (i8_9) => upd (upd (upd (upd (upd (j) 0 (.string tenant0_1 : Value)) 1 (.slice script1_2.a script1_2.n script1_2.c : Value)) 6 (.pointer t22_5 : Value)) 7 (.pointer t23_7 : Value)) 8 (.int .i64 i8_9 : Value)) (0) ?_ h ?_
        · dsimp only
          refine upd_id ?_ rfl
          refine upd_id ?_ rfl
          refine upd_id ?_ rfl
          refine upd_id ?_ rfl
          refine upd_id ?_ rfl
          rfl
        rintro KN16 next15 hN16 i8_9 j w_10 h
        unfold F10_l1 at h
        refine y_seq fun K17 hK17 => ?_
        refine y_seq fun K18 hK18 => ?_
        refine y_region ?_
        refine y_k (.int .i64 i8_9 : Value) w_10 rfl rfl rfl (by kernel_rfl) ?_
        refine y_k (.slice script1_2.a script1_2.n script1_2.c : Value) w_10 rfl rfl rfl (by kernel_rfl) ?_
        refine y_k (.int .i64 ((script1_2.n : Int)) : Value) w_10 rfl rfl rfl (by kernel_rfl) ?_
        refine y_k (.bool (decide (i8_9 < ((script1_2.n : Int)))) : Value) w_10 rfl rfl rfl (by kernel_rfl) ?_
        refine y_k (.bool (decide (i8_9 < ((script1_2.n : Int)))) : Value) w_10 rfl rfl rfl (by kernel_rfl) ?_
        refine y_fork (decide (i8_9 < ((script1_2.n : Int)))) (fun hb19 => ?_) (fun hb19 => ?_)
        · replace h := h.1 (of_decide_eq_true hb19)
          refine y_frame (upd_id (i := 38) (v := .bool true) rfl (congrArg Value.bool hb19)) ?_
          refine y_gyes rfl rfl rfl ?_
          refine y_k (.int .i64 i8_9 : Value) w_10 rfl rfl rfl (by kernel_rfl) ?_
          refine y_gyes rfl rfl rfl ?_
          refine y_k (.bool (decide (i8_9 < 2000)) : Value) w_10 rfl rfl rfl (by kernel_rfl) ?_
          refine y_k (.bool (decide (i8_9 < 2000)) : Value) w_10 rfl rfl rfl (by kernel_rfl) ?_
          refine y_nil ?_
          refine y_then (hK18 _ _ ?_)
          refine y_cond (decide (i8_9 < 2000)) rfl rfl (fun hb117 => ?_) (fun hb117 => ?_)
          · replace h := h.1 (of_decide_eq_true hb117)
            refine y_skip ?_
            refine y_then (hK17 _ _ ?_)
            refine y_seq fun K20 hK20 => ?_
            have hjK20 : ∀ (f : Fr) (w_26 : World), f 0 = (.string tenant0_1 : Value) → f 1 = (.slice script1_2.a script1_2.n script1_2.c : Value) → f 6 = (.pointer t22_5 : Value) → f 7 = (.pointer t23_7 : Value) → f 8 = (.int .i64 i8_9 : Value) → F10_j2 i8_9 next15 w_26 → WK K20 180 f w_26 := by
              intro f  w_26 e0 e1 e6 e7 e8 h
              refine y_atf (upd_id (upd_id (upd_id (upd_id (upd_id rfl e0) e1) e6) e7) e8) ?_
              clear e0 e1 e6 e7 e8
              unfold F10_j2 at h
              refine hK20 _ _ ?_
              refine y_region ?_
              refine y_k (.int .i64 i8_9 : Value) w_26 rfl rfl rfl (by kernel_rfl) ?_
              refine y_k (.int .i64 (IntKind.i64.wrap (i8_9 + 1)) : Value) w_26 rfl rfl rfl (by kernel_rfl) ?_
              refine y_k (.int .i64 (IntKind.i64.wrap (i8_9 + 1)) : Value) w_26 rfl rfl rfl (by kernel_rfl) ?_
              refine y_nil ?_
              refine y_then (hN16 (IntKind.i64.wrap (i8_9 + 1)) _ _ h ?_)
              dsimp only
              refine upd_id ?_ rfl
              refine upd_id ?_ rfl
              refine upd_id ?_ rfl
              refine upd_id ?_ rfl
              refine upd_id ?_ rfl
              rfl
            refine y_block ?_
            refine y_seq fun K22 hK22 => ?_
            refine y_region ?_
            refine y_k (.slice script1_2.a script1_2.n script1_2.c : Value) w_10 rfl rfl rfl (by kernel_rfl) ?_
            refine y_k (.int .i64 i8_9 : Value) w_10 rfl rfl rfl (by kernel_rfl) ?_
            obtain ⟨hx23a, hx23b, a_11, hx23, h⟩ := h
            refine y_v (v := (.pointer (some (a_11.add (Int.toNat i8_9 * 11))) : Value)) (s := Instr.indexAt 85 (.slice script1_2.a script1_2.n script1_2.c : Value) (.int .i64 i8_9 : Value)) rfl rfl rfl (by kernel_rfl) (run_ixs (el := 89) (by kernel_rfl) (by kernel_rfl) hx23 hx23a hx23b) ?_
            obtain ⟨t47_12, t47_13, t47_14, t47_15, t47_16, t47_17, t47_18, t47_19, t47_20, t47_21, t47_22, hx24, h⟩ := h
            refine y_v (s := Instr.loadAt 89 (.pointer (some (a_11.add (Int.toNat i8_9 * 11))))) rfl rfl rfl (by kernel_rfl) (rn_loadcells (k := 11) ⟨by kernel_rfl, by kernel_rfl⟩ rfl hx24) ?_
            refine y_k (.pointer (some (⟨w_10.heap.size, 0, none⟩ : Addr)) : Value) (w_10.alloc (.cells #[.int .i64 0, .int .i64 0, .string ByteArray.empty, .int .i64 0, .int .i64 0, .int .i64 0, .int .i64 0, .int .i64 0, .int .i64 0, .int .i64 0, .int .i64 0] 89)) rfl rfl rfl (by kernel_rfl) ?_
            replace h := h _ rfl
            generalize w_10.alloc (.cells #[.int .i64 0, .int .i64 0, .string ByteArray.empty, .int .i64 0, .int .i64 0, .int .i64 0, .int .i64 0, .int .i64 0, .int .i64 0, .int .i64 0, .int .i64 0] 89) = w_23 at h ⊢
            obtain ⟨hx25, h⟩ := h
            replace h := h _ rfl
            refine y_u (s := Instr.storeAt 89 (.pointer (some (⟨w_10.heap.size, 0, none⟩ : Addr))) (.agg #[.int .i64 t47_12, .int .i64 t47_13, .string t47_14, .int .i64 t47_15, .int .i64 t47_16, .int .i64 t47_17, .int .i64 t47_18, .int .i64 t47_19, .int .i64 t47_20, .int .i64 t47_21, .int .i64 t47_22] : Value)) rfl rfl (by kernel_rfl) (rn_storecells (k := 11) (cs := [.int .i64 t47_12, .int .i64 t47_13, .string t47_14, .int .i64 t47_15, .int .i64 t47_16, .int .i64 t47_17, .int .i64 t47_18, .int .i64 t47_19, .int .i64 t47_20, .int .i64 t47_21, .int .i64 t47_22]) (by kernel_rfl) rfl (by simp [Value.oneCell']) hx25) ?_
            generalize setCells w_23 (⟨w_10.heap.size, 0, none⟩ : Addr) 0 [.int .i64 t47_12, .int .i64 t47_13, .string t47_14, .int .i64 t47_15, .int .i64 t47_16, .int .i64 t47_17, .int .i64 t47_18, .int .i64 t47_19, .int .i64 t47_20, .int .i64 t47_21, .int .i64 t47_22] = w_24 at h ⊢
            refine y_nil ?_
            refine y_then (hK22 _ _ ?_)
            refine y_seq fun K26 hK26 => ?_
            refine y_seq fun K27 hK27 => ?_
            refine y_region ?_
            refine y_k (.pointer (some (⟨w_10.heap.size, 0, none⟩ : Addr)) : Value) w_24 rfl rfl rfl (by kernel_rfl) ?_
            obtain ⟨t49_25, hx28, h⟩ := h
            refine y_v (s := Instr.loadAt 3 (.pointer (some (⟨w_10.heap.size, 0, none⟩ : Addr)))) rfl rfl rfl (by kernel_rfl) (rn_load (by kernel_rfl) hx28) ?_
            refine y_k (.bool ((t49_25 == 5)) : Value) w_24 rfl rfl rfl (by kernel_rfl) ?_
            refine y_nil ?_
            refine y_then (hK27 _ _ ?_)
            refine y_cond ((t49_25 == 5)) rfl rfl (fun hb115 => ?_) (fun hb115 => ?_)
            · replace h := h.1 (eq_of_beq hb115)
              refine y_exit ?_
              repeat (first | refine e_then_x ?_ | refine e_block_y rfl ?_)
              refine e_block_x ?_
              exact y_then (hjK20 _ w_24 rfl rfl rfl rfl rfl h)
            · replace h := h.2 (beq_eq_false_iff_ne.mp hb115)
              refine y_skip ?_
              refine y_then (hK26 _ _ ?_)
              refine y_seq fun K29 hK29 => ?_
              refine y_region ?_
              refine y_k (.int .i64 0 : Value) w_24 rfl rfl rfl (by kernel_rfl) ?_
              refine y_nil ?_
              refine y_then (hK29 _ _ ?_)
              refine y_seq fun K30 hK30 => ?_
              refine y_region ?_
              refine y_k (.int .i64 0 : Value) w_24 rfl rfl rfl (by kernel_rfl) ?_
              refine y_nil ?_
              refine y_then (hK30 _ _ ?_)
              refine y_seq fun K31 hK31 => ?_
              refine y_region ?_
              refine y_k (.pointer (some ((⟨w_10.heap.size, 0, none⟩ : Addr).add 2)) : Value) w_24 rfl rfl rfl (by kernel_rfl) ?_
              obtain ⟨t52_27, hx32, h⟩ := h
              refine y_v (s := Instr.loadAt 9 (.pointer (some ((⟨w_10.heap.size, 0, none⟩ : Addr).add 2)))) rfl rfl rfl (by kernel_rfl) (rn_load (by kernel_rfl) hx32) ?_
              refine y_k (.string tenant0_1 : Value) w_24 rfl rfl rfl (by kernel_rfl) ?_
              refine y_k (.bool ((t52_27.toList == tenant0_1.toList)) : Value) w_24 rfl rfl rfl (by kernel_rfl) ?_
              refine y_k (.bool ((t52_27.toList == tenant0_1.toList)) : Value) w_24 rfl rfl rfl (by kernel_rfl) ?_
              refine y_nil ?_
              refine y_then (hK31 _ _ ?_)
              refine y_seq fun K33 hK33 => ?_
              have hjK33 : ∀ (f : Fr) (x10_39 : Int) (y11_40 : Int) (w_41 : World), f 0 = (.string tenant0_1 : Value) → f 1 = (.slice script1_2.a script1_2.n script1_2.c : Value) → f 6 = (.pointer t22_5 : Value) → f 7 = (.pointer t23_7 : Value) → f 8 = (.int .i64 i8_9 : Value) → f 9 = (.pointer (some (⟨w_10.heap.size, 0, none⟩ : Addr)) : Value) → f 10 = (.int .i64 x10_39 : Value) → f 11 = (.int .i64 y11_40 : Value) → f 12 = (.bool ((t52_27.toList == tenant0_1.toList)) : Value) → F10_j3 tenant0_1 K t22_5 t23_7 i8_9 next15 w_10 t52_27 x10_39 y11_40 w_41 → WK K33 180 f w_41 := by
                intro f x10_39 y11_40 w_41 e0 e1 e6 e7 e8 e9 e10 e11 e12 h
                refine y_atf (upd_id (upd_id (upd_id (upd_id (upd_id (upd_id (upd_id (upd_id (upd_id rfl e0) e1) e6) e7) e8) e9) e10) e11) e12) ?_
                clear e0 e1 e6 e7 e8 e9 e10 e11 e12
                unfold F10_j3 at h
                refine hK33 _ _ ?_
                refine y_seq fun K46 hK46 => ?_
                refine y_region ?_
                refine y_k (.pointer t22_5 : Value) w_41 rfl rfl rfl (by kernel_rfl) ?_
                refine y_k (.string tenant0_1 : Value) w_41 rfl rfl rfl (by kernel_rfl) ?_
                refine y_k (.pointer (some ((⟨w_10.heap.size, 0, none⟩ : Addr).add 3)) : Value) w_41 rfl rfl rfl (by kernel_rfl) ?_
                obtain ⟨t130_42, hx47, h⟩ := h
                refine y_v (s := Instr.loadAt 2 (.pointer (some ((⟨w_10.heap.size, 0, none⟩ : Addr).add 3)))) rfl rfl rfl (by kernel_rfl) (rn_load (by kernel_rfl) hx47) ?_
                refine y_call rfl rfl rfl (by kernel_rfl) (h.mono ?_)
                rintro _ w_45 ⟨t131_43, t131_44, rfl, h⟩
                refine ⟨_, rfl, ?_⟩
                refine y_k (.tuple #[.int .i64 t131_43, .int .i64 t131_44] : Value) w_45 rfl rfl rfl (by kernel_rfl) ?_
                refine y_k (.int .i64 t131_43 : Value) w_45 rfl rfl rfl (by kernel_rfl) ?_
                refine y_k (.int .i64 t131_44 : Value) w_45 rfl rfl rfl (by kernel_rfl) ?_
                refine y_k (.int .i64 t131_43 : Value) w_45 rfl rfl rfl (by kernel_rfl) ?_
                refine y_k (.int .i64 t131_44 : Value) w_45 rfl rfl rfl (by kernel_rfl) ?_
                refine y_nil ?_
                refine y_then (hK46 _ _ ?_)
                refine y_seq fun K48 hK48 => ?_
                refine y_region ?_
                refine y_k (.pointer t23_7 : Value) w_45 rfl rfl rfl (by kernel_rfl) ?_
                refine y_k (.string tenant0_1 : Value) w_45 rfl rfl rfl (by kernel_rfl) ?_
                refine y_k (.pointer (some ((⟨w_10.heap.size, 0, none⟩ : Addr).add 3)) : Value) w_45 rfl rfl rfl (by kernel_rfl) ?_
                obtain ⟨t138_46, hx49, h⟩ := h
                refine y_v (s := Instr.loadAt 2 (.pointer (some ((⟨w_10.heap.size, 0, none⟩ : Addr).add 3)))) rfl rfl rfl (by kernel_rfl) (rn_load (by kernel_rfl) hx49) ?_
                refine y_call rfl rfl rfl (by kernel_rfl) (h.mono ?_)
                rintro _ w_49 ⟨t139_47, t139_48, rfl, h⟩
                refine ⟨_, rfl, ?_⟩
                refine y_k (.tuple #[.int .i64 t139_47, .int .i64 t139_48] : Value) w_49 rfl rfl rfl (by kernel_rfl) ?_
                refine y_k (.int .i64 t139_47 : Value) w_49 rfl rfl rfl (by kernel_rfl) ?_
                refine y_k (.int .i64 t139_48 : Value) w_49 rfl rfl rfl (by kernel_rfl) ?_
                refine y_k (.int .i64 t139_47 : Value) w_49 rfl rfl rfl (by kernel_rfl) ?_
                refine y_k (.int .i64 t139_48 : Value) w_49 rfl rfl rfl (by kernel_rfl) ?_
                refine y_nil ?_
                refine y_then (hK48 _ _ ?_)
                refine y_seq fun K50 hK50 => ?_
                refine y_region ?_
                refine y_k (.pointer t22_5 : Value) w_49 rfl rfl rfl (by kernel_rfl) ?_
                refine y_k (.string tenant0_1 : Value) w_49 rfl rfl rfl (by kernel_rfl) ?_
                refine y_call rfl rfl rfl (by kernel_rfl) (h.mono ?_)
                rintro _ w_56 ⟨t145_50, t145_51, t145_52, t145_53, t145_54, t145_55, rfl, h⟩
                refine ⟨_, rfl, ?_⟩
                refine y_k (.tuple #[.agg #[.int .i64 t145_50, .int .i64 t145_51, .int .i64 t145_52, .int .i64 t145_53, .int .i64 t145_54], .bool t145_55] : Value) w_56 rfl rfl rfl (by kernel_rfl) ?_
                refine y_k (.agg #[.int .i64 t145_50, .int .i64 t145_51, .int .i64 t145_52, .int .i64 t145_53, .int .i64 t145_54] : Value) w_56 rfl rfl rfl (by kernel_rfl) ?_
                refine y_k (.bool t145_55 : Value) w_56 rfl rfl rfl (by kernel_rfl) ?_
                refine y_k (.pointer (some (⟨w_56.heap.size, 0, none⟩ : Addr)) : Value) (w_56.alloc (.cells #[.int .i64 0, .int .i64 0, .int .i64 0, .int .i64 0, .int .i64 0] 87)) rfl rfl rfl (by kernel_rfl) ?_
                replace h := h _ rfl
                generalize w_56.alloc (.cells #[.int .i64 0, .int .i64 0, .int .i64 0, .int .i64 0, .int .i64 0] 87) = w_57 at h ⊢
                obtain ⟨hx51, h⟩ := h
                replace h := h _ rfl
                refine y_u (s := Instr.storeAt 87 (.pointer (some (⟨w_56.heap.size, 0, none⟩ : Addr))) (.agg #[.int .i64 t145_50, .int .i64 t145_51, .int .i64 t145_52, .int .i64 t145_53, .int .i64 t145_54] : Value)) rfl rfl (by kernel_rfl) (rn_storecells (k := 5) (cs := [.int .i64 t145_50, .int .i64 t145_51, .int .i64 t145_52, .int .i64 t145_53, .int .i64 t145_54]) (by kernel_rfl) rfl (by simp [Value.oneCell']) hx51) ?_
                generalize setCells w_57 (⟨w_56.heap.size, 0, none⟩ : Addr) 0 [.int .i64 t145_50, .int .i64 t145_51, .int .i64 t145_52, .int .i64 t145_53, .int .i64 t145_54] = w_58 at h ⊢
                refine y_k (.bool t145_55 : Value) w_58 rfl rfl rfl (by kernel_rfl) ?_
                refine y_nil ?_
                refine y_then (hK50 _ _ ?_)
                refine y_seq fun K52 hK52 => ?_
                refine y_region ?_
                refine y_k (.pointer t23_7 : Value) w_58 rfl rfl rfl (by kernel_rfl) ?_
                refine y_k (.string tenant0_1 : Value) w_58 rfl rfl rfl (by kernel_rfl) ?_
                refine y_call rfl rfl rfl (by kernel_rfl) (h.mono ?_)
                rintro _ w_65 ⟨t151_59, t151_60, t151_61, t151_62, t151_63, t151_64, rfl, h⟩
                refine ⟨_, rfl, ?_⟩
                refine y_k (.tuple #[.agg #[.int .i64 t151_59, .int .i64 t151_60, .int .i64 t151_61, .int .i64 t151_62, .int .i64 t151_63], .bool t151_64] : Value) w_65 rfl rfl rfl (by kernel_rfl) ?_
                refine y_k (.agg #[.int .i64 t151_59, .int .i64 t151_60, .int .i64 t151_61, .int .i64 t151_62, .int .i64 t151_63] : Value) w_65 rfl rfl rfl (by kernel_rfl) ?_
                refine y_k (.bool t151_64 : Value) w_65 rfl rfl rfl (by kernel_rfl) ?_
                refine y_k (.pointer (some (⟨w_65.heap.size, 0, none⟩ : Addr)) : Value) (w_65.alloc (.cells #[.int .i64 0, .int .i64 0, .int .i64 0, .int .i64 0, .int .i64 0] 87)) rfl rfl rfl (by kernel_rfl) ?_
                replace h := h _ rfl
                generalize w_65.alloc (.cells #[.int .i64 0, .int .i64 0, .int .i64 0, .int .i64 0, .int .i64 0] 87) = w_66 at h ⊢
                obtain ⟨hx53, h⟩ := h
                replace h := h _ rfl
                refine y_u (s := Instr.storeAt 87 (.pointer (some (⟨w_65.heap.size, 0, none⟩ : Addr))) (.agg #[.int .i64 t151_59, .int .i64 t151_60, .int .i64 t151_61, .int .i64 t151_62, .int .i64 t151_63] : Value)) rfl rfl (by kernel_rfl) (rn_storecells (k := 5) (cs := [.int .i64 t151_59, .int .i64 t151_60, .int .i64 t151_61, .int .i64 t151_62, .int .i64 t151_63]) (by kernel_rfl) rfl (by simp [Value.oneCell']) hx53) ?_
                generalize setCells w_66 (⟨w_65.heap.size, 0, none⟩ : Addr) 0 [.int .i64 t151_59, .int .i64 t151_60, .int .i64 t151_61, .int .i64 t151_62, .int .i64 t151_63] = w_67 at h ⊢
                refine y_k (.bool t151_64 : Value) w_67 rfl rfl rfl (by kernel_rfl) ?_
                refine y_nil ?_
                refine y_then (hK52 _ _ ?_)
                refine y_seq fun K54 hK54 => ?_
                refine y_region ?_
                refine y_k (.bool ((t52_27.toList == tenant0_1.toList)) : Value) w_67 rfl rfl rfl (by kernel_rfl) ?_
                refine y_k (.bool ((t52_27.toList == tenant0_1.toList)) : Value) w_67 rfl rfl rfl (by kernel_rfl) ?_
                refine y_fork ((t52_27.toList == tenant0_1.toList)) (fun hb55 => ?_) (fun hb55 => ?_)
                · replace h := h.1 (eq_of_beq hb55)
                  refine y_frame (upd_id (i := 155) (v := .bool true) rfl (congrArg Value.bool hb55)) ?_
                  refine y_gyes rfl rfl rfl ?_
                  refine y_k (.int .i64 x10_39 : Value) w_67 rfl rfl rfl (by kernel_rfl) ?_
                  refine y_gyes rfl rfl rfl ?_
                  refine y_k (.int .i64 y11_40 : Value) w_67 rfl rfl rfl (by kernel_rfl) ?_
                  refine y_gyes rfl rfl rfl ?_
                  refine y_k (.bool ((x10_39 != y11_40)) : Value) w_67 rfl rfl rfl (by kernel_rfl) ?_
                  refine y_k (.bool ((x10_39 != y11_40)) : Value) w_67 rfl rfl rfl (by kernel_rfl) ?_
                  refine y_k (.bool ((x10_39 != y11_40)) : Value) w_67 rfl rfl rfl (by kernel_rfl) ?_
                  refine y_fork ((x10_39 != y11_40)) (fun hb56 => ?_) (fun hb56 => ?_)
                  · replace h := h.1 (bne_iff_ne.mp hb56)
                    refine y_frame (upd_id (i := 160) (v := .bool true) rfl (congrArg Value.bool hb56)) ?_
                    refine y_gno rfl rfl rfl rfl ?_
                    refine y_gno rfl rfl rfl rfl ?_
                    refine y_gno rfl rfl rfl rfl ?_
                    refine y_k (.bool true : Value) w_67 rfl rfl rfl (by kernel_rfl) ?_
                    refine y_k (.bool true : Value) w_67 rfl rfl rfl (by kernel_rfl) ?_
                    refine y_gno rfl rfl rfl rfl ?_
                    refine y_gno rfl rfl rfl rfl ?_
                    refine y_gno rfl rfl rfl rfl ?_
                    refine y_k (.bool true : Value) w_67 rfl rfl rfl (by kernel_rfl) ?_
                    refine y_k (.bool true : Value) w_67 rfl rfl rfl (by kernel_rfl) ?_
                    refine y_gno rfl rfl rfl rfl ?_
                    refine y_gno rfl rfl rfl rfl ?_
                    refine y_gno rfl rfl rfl rfl ?_
                    refine y_k (.bool true : Value) w_67 rfl rfl rfl (by kernel_rfl) ?_
                    refine y_k (.bool true : Value) w_67 rfl rfl rfl (by kernel_rfl) ?_
                    refine y_gno rfl rfl rfl rfl ?_
                    refine y_gno rfl rfl rfl rfl ?_
                    refine y_gno rfl rfl rfl rfl ?_
                    refine y_k (.bool true : Value) w_67 rfl rfl rfl (by kernel_rfl) ?_
                    refine y_nil ?_
                    refine y_then (hK54 _ _ ?_)
                    refine y_cond_t rfl rfl ?_
                    refine y_seq fun K57 hK57 => ?_
                    refine y_region ?_
                    refine y_k (.bool false : Value) w_67 rfl rfl rfl (by kernel_rfl) ?_
                    refine y_nil ?_
                    refine y_then (hK57 _ _ ?_)
                    refine y_ret ?_
                    repeat (first | refine e_then_r ?_ | refine e_block_r ?_)
                    exact (hQ0 _ _ _ (res1 (v := (.bool false : Value)) rfl rfl rfl) ⟨_, rfl, h⟩).1
                  · replace h := h.2 (bne_eq_false_iff_eq.mp hb56)
                    refine y_frame (upd_id (i := 160) (v := .bool false) rfl (congrArg Value.bool hb56)) ?_
                    refine y_gyes rfl rfl rfl ?_
                    refine y_k (.int .i64 t131_43 : Value) w_67 rfl rfl rfl (by kernel_rfl) ?_
                    refine y_gyes rfl rfl rfl ?_
                    refine y_k (.int .i64 t139_47 : Value) w_67 rfl rfl rfl (by kernel_rfl) ?_
                    refine y_gyes rfl rfl rfl ?_
                    refine y_k (.bool ((t131_43 != t139_47)) : Value) w_67 rfl rfl rfl (by kernel_rfl) ?_
                    refine y_k (.bool ((t131_43 != t139_47)) : Value) w_67 rfl rfl rfl (by kernel_rfl) ?_
                    refine y_k (.bool ((t131_43 != t139_47)) : Value) w_67 rfl rfl rfl (by kernel_rfl) ?_
                    refine y_fork ((t131_43 != t139_47)) (fun hb58 => ?_) (fun hb58 => ?_)
                    · replace h := h.1 (bne_iff_ne.mp hb58)
                      refine y_frame (upd_id (i := 165) (v := .bool true) rfl (congrArg Value.bool hb58)) ?_
                      refine y_gno rfl rfl rfl rfl ?_
                      refine y_gno rfl rfl rfl rfl ?_
                      refine y_gno rfl rfl rfl rfl ?_
                      refine y_k (.bool true : Value) w_67 rfl rfl rfl (by kernel_rfl) ?_
                      refine y_k (.bool true : Value) w_67 rfl rfl rfl (by kernel_rfl) ?_
                      refine y_gno rfl rfl rfl rfl ?_
                      refine y_gno rfl rfl rfl rfl ?_
                      refine y_gno rfl rfl rfl rfl ?_
                      refine y_k (.bool true : Value) w_67 rfl rfl rfl (by kernel_rfl) ?_
                      refine y_k (.bool true : Value) w_67 rfl rfl rfl (by kernel_rfl) ?_
                      refine y_gno rfl rfl rfl rfl ?_
                      refine y_gno rfl rfl rfl rfl ?_
                      refine y_gno rfl rfl rfl rfl ?_
                      refine y_k (.bool true : Value) w_67 rfl rfl rfl (by kernel_rfl) ?_
                      refine y_nil ?_
                      refine y_then (hK54 _ _ ?_)
                      refine y_cond_t rfl rfl ?_
                      refine y_seq fun K59 hK59 => ?_
                      refine y_region ?_
                      refine y_k (.bool false : Value) w_67 rfl rfl rfl (by kernel_rfl) ?_
                      refine y_nil ?_
                      refine y_then (hK59 _ _ ?_)
                      refine y_ret ?_
                      repeat (first | refine e_then_r ?_ | refine e_block_r ?_)
                      exact (hQ0 _ _ _ (res1 (v := (.bool false : Value)) rfl rfl rfl) ⟨_, rfl, h⟩).1
                    · replace h := h.2 (bne_eq_false_iff_eq.mp hb58)
                      refine y_frame (upd_id (i := 165) (v := .bool false) rfl (congrArg Value.bool hb58)) ?_
                      refine y_gyes rfl rfl rfl ?_
                      refine y_k (.int .i64 t131_44 : Value) w_67 rfl rfl rfl (by kernel_rfl) ?_
                      refine y_gyes rfl rfl rfl ?_
                      refine y_k (.int .i64 t139_48 : Value) w_67 rfl rfl rfl (by kernel_rfl) ?_
                      refine y_gyes rfl rfl rfl ?_
                      refine y_k (.bool ((t131_44 != t139_48)) : Value) w_67 rfl rfl rfl (by kernel_rfl) ?_
                      refine y_k (.bool ((t131_44 != t139_48)) : Value) w_67 rfl rfl rfl (by kernel_rfl) ?_
                      refine y_k (.bool ((t131_44 != t139_48)) : Value) w_67 rfl rfl rfl (by kernel_rfl) ?_
                      refine y_fork ((t131_44 != t139_48)) (fun hb60 => ?_) (fun hb60 => ?_)
                      · replace h := h.1 (bne_iff_ne.mp hb60)
                        refine y_frame (upd_id (i := 170) (v := .bool true) rfl (congrArg Value.bool hb60)) ?_
                        refine y_gno rfl rfl rfl rfl ?_
                        refine y_gno rfl rfl rfl rfl ?_
                        refine y_gno rfl rfl rfl rfl ?_
                        refine y_k (.bool true : Value) w_67 rfl rfl rfl (by kernel_rfl) ?_
                        refine y_k (.bool true : Value) w_67 rfl rfl rfl (by kernel_rfl) ?_
                        refine y_gno rfl rfl rfl rfl ?_
                        refine y_gno rfl rfl rfl rfl ?_
                        refine y_gno rfl rfl rfl rfl ?_
                        refine y_k (.bool true : Value) w_67 rfl rfl rfl (by kernel_rfl) ?_
                        refine y_nil ?_
                        refine y_then (hK54 _ _ ?_)
                        refine y_cond_t rfl rfl ?_
                        refine y_seq fun K61 hK61 => ?_
                        refine y_region ?_
                        refine y_k (.bool false : Value) w_67 rfl rfl rfl (by kernel_rfl) ?_
                        refine y_nil ?_
                        refine y_then (hK61 _ _ ?_)
                        refine y_ret ?_
                        repeat (first | refine e_then_r ?_ | refine e_block_r ?_)
                        exact (hQ0 _ _ _ (res1 (v := (.bool false : Value)) rfl rfl rfl) ⟨_, rfl, h⟩).1
                      · replace h := h.2 (bne_eq_false_iff_eq.mp hb60)
                        refine y_frame (upd_id (i := 170) (v := .bool false) rfl (congrArg Value.bool hb60)) ?_
                        refine y_gyes rfl rfl rfl ?_
                        obtain ⟨t171_68, t171_69, t171_70, t171_71, t171_72, hx62, h⟩ := h
                        refine y_v (s := Instr.loadAt 87 (.pointer (some (⟨w_56.heap.size, 0, none⟩ : Addr)))) rfl rfl rfl (by kernel_rfl) (rn_loadcells (k := 5) ⟨by kernel_rfl, by kernel_rfl⟩ rfl hx62) ?_
                        refine y_gyes rfl rfl rfl ?_
                        obtain ⟨t172_73, t172_74, t172_75, t172_76, t172_77, hx63, h⟩ := h
                        refine y_v (s := Instr.loadAt 87 (.pointer (some (⟨w_65.heap.size, 0, none⟩ : Addr)))) rfl rfl rfl (by kernel_rfl) (rn_loadcells (k := 5) ⟨by kernel_rfl, by kernel_rfl⟩ rfl hx63) ?_
                        refine y_gyes rfl rfl rfl ?_
                        obtain ⟨t173_78, hx64, h⟩ := h
                        refine y_v (s := do eqGuard .neq 87 (Operand.tmp 171) (Operand.tmp 172) (.agg #[.int .i64 t171_68, .int .i64 t171_69, .int .i64 t171_70, .int .i64 t171_71, .int .i64 t171_72] : Value) (.agg #[.int .i64 t172_73, .int .i64 t172_74, .int .i64 t172_75, .int .i64 t172_76, .int .i64 t172_77] : Value); binOp .neq 87 (.agg #[.int .i64 t171_68, .int .i64 t171_69, .int .i64 t171_70, .int .i64 t171_71, .int .i64 t171_72] : Value) (.agg #[.int .i64 t172_73, .int .i64 t172_74, .int .i64 t172_75, .int .i64 t172_76, .int .i64 t172_77] : Value)) rfl rfl rfl (by kernel_rfl) (hx64) ?_
                        refine y_k (.bool t173_78 : Value) w_67 rfl rfl rfl (by kernel_rfl) ?_
                        refine y_k (.bool t173_78 : Value) w_67 rfl rfl rfl (by kernel_rfl) ?_
                        refine y_fork (t173_78) (fun hb65 => ?_) (fun hb65 => ?_)
                        · replace h := h.1 (hb65)
                          refine y_frame (upd_id (i := 175) (v := .bool true) rfl (congrArg Value.bool hb65)) ?_
                          refine y_gno rfl rfl rfl rfl ?_
                          refine y_gno rfl rfl rfl rfl ?_
                          refine y_gno rfl rfl rfl rfl ?_
                          refine y_k (.bool true : Value) w_67 rfl rfl rfl (by kernel_rfl) ?_
                          refine y_nil ?_
                          refine y_then (hK54 _ _ ?_)
                          refine y_cond_t rfl rfl ?_
                          refine y_seq fun K66 hK66 => ?_
                          refine y_region ?_
                          refine y_k (.bool false : Value) w_67 rfl rfl rfl (by kernel_rfl) ?_
                          refine y_nil ?_
                          refine y_then (hK66 _ _ ?_)
                          refine y_ret ?_
                          repeat (first | refine e_then_r ?_ | refine e_block_r ?_)
                          exact (hQ0 _ _ _ (res1 (v := (.bool false : Value)) rfl rfl rfl) ⟨_, rfl, h⟩).1
                        · replace h := h.2 (hb65)
                          refine y_frame (upd_id (i := 175) (v := .bool false) rfl (congrArg Value.bool hb65)) ?_
                          refine y_gyes rfl rfl rfl ?_
                          refine y_k (.bool t145_55 : Value) w_67 rfl rfl rfl (by kernel_rfl) ?_
                          refine y_gyes rfl rfl rfl ?_
                          refine y_k (.bool t151_64 : Value) w_67 rfl rfl rfl (by kernel_rfl) ?_
                          refine y_gyes rfl rfl rfl ?_
                          obtain ⟨t178_79, hx67, h⟩ := h
                          refine y_v (s := do eqGuard .neq 4 (Operand.tmp 176) (Operand.tmp 177) (.bool t145_55 : Value) (.bool t151_64 : Value); binOp .neq 4 (.bool t145_55 : Value) (.bool t151_64 : Value)) rfl rfl rfl (by kernel_rfl) (hx67) ?_
                          refine y_k (.bool t178_79 : Value) w_67 rfl rfl rfl (by kernel_rfl) ?_
                          refine y_nil ?_
                          refine y_then (hK54 _ _ ?_)
                          refine y_cond (t178_79) rfl rfl (fun hb69 => ?_) (fun hb69 => ?_)
                          · replace h := h.1 (hb69)
                            refine y_seq fun K68 hK68 => ?_
                            refine y_region ?_
                            refine y_k (.bool false : Value) w_67 rfl rfl rfl (by kernel_rfl) ?_
                            refine y_nil ?_
                            refine y_then (hK68 _ _ ?_)
                            refine y_ret ?_
                            repeat (first | refine e_then_r ?_ | refine e_block_r ?_)
                            exact (hQ0 _ _ _ (res1 (v := (.bool false : Value)) rfl rfl rfl) ⟨_, rfl, h⟩).1
                          · replace h := h.2 (hb69)
                            refine y_skip ?_
                            refine e_block_n ?_
                            exact y_then (hjK20 _ w_67 rfl rfl rfl rfl rfl h)
                · replace h := h.2 (beq_eq_false_iff_ne.mp hb55)
                  refine y_frame (upd_id (i := 155) (v := .bool false) rfl (congrArg Value.bool hb55)) ?_
                  refine y_gno rfl rfl rfl rfl ?_
                  refine y_gno rfl rfl rfl rfl ?_
                  refine y_gno rfl rfl rfl rfl ?_
                  refine y_k (.bool false : Value) w_67 rfl rfl rfl (by kernel_rfl) ?_
                  refine y_k (.bool false : Value) w_67 rfl rfl rfl (by kernel_rfl) ?_
                  refine y_gyes rfl rfl rfl ?_
                  refine y_k (.int .i64 t131_43 : Value) w_67 rfl rfl rfl (by kernel_rfl) ?_
                  refine y_gyes rfl rfl rfl ?_
                  refine y_k (.int .i64 t139_47 : Value) w_67 rfl rfl rfl (by kernel_rfl) ?_
                  refine y_gyes rfl rfl rfl ?_
                  refine y_k (.bool ((t131_43 != t139_47)) : Value) w_67 rfl rfl rfl (by kernel_rfl) ?_
                  refine y_k (.bool ((t131_43 != t139_47)) : Value) w_67 rfl rfl rfl (by kernel_rfl) ?_
                  refine y_k (.bool ((t131_43 != t139_47)) : Value) w_67 rfl rfl rfl (by kernel_rfl) ?_
                  refine y_fork ((t131_43 != t139_47)) (fun hb70 => ?_) (fun hb70 => ?_)
                  · replace h := h.1 (bne_iff_ne.mp hb70)
                    refine y_frame (upd_id (i := 165) (v := .bool true) rfl (congrArg Value.bool hb70)) ?_
                    refine y_gno rfl rfl rfl rfl ?_
                    refine y_gno rfl rfl rfl rfl ?_
                    refine y_gno rfl rfl rfl rfl ?_
                    refine y_k (.bool true : Value) w_67 rfl rfl rfl (by kernel_rfl) ?_
                    refine y_k (.bool true : Value) w_67 rfl rfl rfl (by kernel_rfl) ?_
                    refine y_gno rfl rfl rfl rfl ?_
                    refine y_gno rfl rfl rfl rfl ?_
                    refine y_gno rfl rfl rfl rfl ?_
                    refine y_k (.bool true : Value) w_67 rfl rfl rfl (by kernel_rfl) ?_
                    refine y_k (.bool true : Value) w_67 rfl rfl rfl (by kernel_rfl) ?_
                    refine y_gno rfl rfl rfl rfl ?_
                    refine y_gno rfl rfl rfl rfl ?_
                    refine y_gno rfl rfl rfl rfl ?_
                    refine y_k (.bool true : Value) w_67 rfl rfl rfl (by kernel_rfl) ?_
                    refine y_nil ?_
                    refine y_then (hK54 _ _ ?_)
                    refine y_cond_t rfl rfl ?_
                    refine y_seq fun K71 hK71 => ?_
                    refine y_region ?_
                    refine y_k (.bool false : Value) w_67 rfl rfl rfl (by kernel_rfl) ?_
                    refine y_nil ?_
                    refine y_then (hK71 _ _ ?_)
                    refine y_ret ?_
                    repeat (first | refine e_then_r ?_ | refine e_block_r ?_)
                    exact (hQ0 _ _ _ (res1 (v := (.bool false : Value)) rfl rfl rfl) ⟨_, rfl, h⟩).1
                  · replace h := h.2 (bne_eq_false_iff_eq.mp hb70)
                    refine y_frame (upd_id (i := 165) (v := .bool false) rfl (congrArg Value.bool hb70)) ?_
                    refine y_gyes rfl rfl rfl ?_
                    refine y_k (.int .i64 t131_44 : Value) w_67 rfl rfl rfl (by kernel_rfl) ?_
                    refine y_gyes rfl rfl rfl ?_
                    refine y_k (.int .i64 t139_48 : Value) w_67 rfl rfl rfl (by kernel_rfl) ?_
                    refine y_gyes rfl rfl rfl ?_
                    refine y_k (.bool ((t131_44 != t139_48)) : Value) w_67 rfl rfl rfl (by kernel_rfl) ?_
                    refine y_k (.bool ((t131_44 != t139_48)) : Value) w_67 rfl rfl rfl (by kernel_rfl) ?_
                    refine y_k (.bool ((t131_44 != t139_48)) : Value) w_67 rfl rfl rfl (by kernel_rfl) ?_
                    refine y_fork ((t131_44 != t139_48)) (fun hb72 => ?_) (fun hb72 => ?_)
                    · replace h := h.1 (bne_iff_ne.mp hb72)
                      refine y_frame (upd_id (i := 170) (v := .bool true) rfl (congrArg Value.bool hb72)) ?_
                      refine y_gno rfl rfl rfl rfl ?_
                      refine y_gno rfl rfl rfl rfl ?_
                      refine y_gno rfl rfl rfl rfl ?_
                      refine y_k (.bool true : Value) w_67 rfl rfl rfl (by kernel_rfl) ?_
                      refine y_k (.bool true : Value) w_67 rfl rfl rfl (by kernel_rfl) ?_
                      refine y_gno rfl rfl rfl rfl ?_
                      refine y_gno rfl rfl rfl rfl ?_
                      refine y_gno rfl rfl rfl rfl ?_
                      refine y_k (.bool true : Value) w_67 rfl rfl rfl (by kernel_rfl) ?_
                      refine y_nil ?_
                      refine y_then (hK54 _ _ ?_)
                      refine y_cond_t rfl rfl ?_
                      refine y_seq fun K73 hK73 => ?_
                      refine y_region ?_
                      refine y_k (.bool false : Value) w_67 rfl rfl rfl (by kernel_rfl) ?_
                      refine y_nil ?_
                      refine y_then (hK73 _ _ ?_)
                      refine y_ret ?_
                      repeat (first | refine e_then_r ?_ | refine e_block_r ?_)
                      exact (hQ0 _ _ _ (res1 (v := (.bool false : Value)) rfl rfl rfl) ⟨_, rfl, h⟩).1
                    · replace h := h.2 (bne_eq_false_iff_eq.mp hb72)
                      refine y_frame (upd_id (i := 170) (v := .bool false) rfl (congrArg Value.bool hb72)) ?_
                      refine y_gyes rfl rfl rfl ?_
                      obtain ⟨t171_80, t171_81, t171_82, t171_83, t171_84, hx74, h⟩ := h
                      refine y_v (s := Instr.loadAt 87 (.pointer (some (⟨w_56.heap.size, 0, none⟩ : Addr)))) rfl rfl rfl (by kernel_rfl) (rn_loadcells (k := 5) ⟨by kernel_rfl, by kernel_rfl⟩ rfl hx74) ?_
                      refine y_gyes rfl rfl rfl ?_
                      obtain ⟨t172_85, t172_86, t172_87, t172_88, t172_89, hx75, h⟩ := h
                      refine y_v (s := Instr.loadAt 87 (.pointer (some (⟨w_65.heap.size, 0, none⟩ : Addr)))) rfl rfl rfl (by kernel_rfl) (rn_loadcells (k := 5) ⟨by kernel_rfl, by kernel_rfl⟩ rfl hx75) ?_
                      refine y_gyes rfl rfl rfl ?_
                      obtain ⟨t173_90, hx76, h⟩ := h
                      refine y_v (s := do eqGuard .neq 87 (Operand.tmp 171) (Operand.tmp 172) (.agg #[.int .i64 t171_80, .int .i64 t171_81, .int .i64 t171_82, .int .i64 t171_83, .int .i64 t171_84] : Value) (.agg #[.int .i64 t172_85, .int .i64 t172_86, .int .i64 t172_87, .int .i64 t172_88, .int .i64 t172_89] : Value); binOp .neq 87 (.agg #[.int .i64 t171_80, .int .i64 t171_81, .int .i64 t171_82, .int .i64 t171_83, .int .i64 t171_84] : Value) (.agg #[.int .i64 t172_85, .int .i64 t172_86, .int .i64 t172_87, .int .i64 t172_88, .int .i64 t172_89] : Value)) rfl rfl rfl (by kernel_rfl) (hx76) ?_
                      refine y_k (.bool t173_90 : Value) w_67 rfl rfl rfl (by kernel_rfl) ?_
                      refine y_k (.bool t173_90 : Value) w_67 rfl rfl rfl (by kernel_rfl) ?_
                      refine y_fork (t173_90) (fun hb77 => ?_) (fun hb77 => ?_)
                      · replace h := h.1 (hb77)
                        refine y_frame (upd_id (i := 175) (v := .bool true) rfl (congrArg Value.bool hb77)) ?_
                        refine y_gno rfl rfl rfl rfl ?_
                        refine y_gno rfl rfl rfl rfl ?_
                        refine y_gno rfl rfl rfl rfl ?_
                        refine y_k (.bool true : Value) w_67 rfl rfl rfl (by kernel_rfl) ?_
                        refine y_nil ?_
                        refine y_then (hK54 _ _ ?_)
                        refine y_cond_t rfl rfl ?_
                        refine y_seq fun K78 hK78 => ?_
                        refine y_region ?_
                        refine y_k (.bool false : Value) w_67 rfl rfl rfl (by kernel_rfl) ?_
                        refine y_nil ?_
                        refine y_then (hK78 _ _ ?_)
                        refine y_ret ?_
                        repeat (first | refine e_then_r ?_ | refine e_block_r ?_)
                        exact (hQ0 _ _ _ (res1 (v := (.bool false : Value)) rfl rfl rfl) ⟨_, rfl, h⟩).1
                      · replace h := h.2 (hb77)
                        refine y_frame (upd_id (i := 175) (v := .bool false) rfl (congrArg Value.bool hb77)) ?_
                        refine y_gyes rfl rfl rfl ?_
                        refine y_k (.bool t145_55 : Value) w_67 rfl rfl rfl (by kernel_rfl) ?_
                        refine y_gyes rfl rfl rfl ?_
                        refine y_k (.bool t151_64 : Value) w_67 rfl rfl rfl (by kernel_rfl) ?_
                        refine y_gyes rfl rfl rfl ?_
                        obtain ⟨t178_91, hx79, h⟩ := h
                        refine y_v (s := do eqGuard .neq 4 (Operand.tmp 176) (Operand.tmp 177) (.bool t145_55 : Value) (.bool t151_64 : Value); binOp .neq 4 (.bool t145_55 : Value) (.bool t151_64 : Value)) rfl rfl rfl (by kernel_rfl) (hx79) ?_
                        refine y_k (.bool t178_91 : Value) w_67 rfl rfl rfl (by kernel_rfl) ?_
                        refine y_nil ?_
                        refine y_then (hK54 _ _ ?_)
                        refine y_cond (t178_91) rfl rfl (fun hb81 => ?_) (fun hb81 => ?_)
                        · replace h := h.1 (hb81)
                          refine y_seq fun K80 hK80 => ?_
                          refine y_region ?_
                          refine y_k (.bool false : Value) w_67 rfl rfl rfl (by kernel_rfl) ?_
                          refine y_nil ?_
                          refine y_then (hK80 _ _ ?_)
                          refine y_ret ?_
                          repeat (first | refine e_then_r ?_ | refine e_block_r ?_)
                          exact (hQ0 _ _ _ (res1 (v := (.bool false : Value)) rfl rfl rfl) ⟨_, rfl, h⟩).1
                        · replace h := h.2 (hb81)
                          refine y_skip ?_
                          refine e_block_n ?_
                          exact y_then (hjK20 _ w_67 rfl rfl rfl rfl rfl h)
              refine y_seq fun K34 hK34 => ?_
              refine y_region ?_
              refine y_k (.pointer (some (⟨w_10.heap.size, 0, none⟩ : Addr)) : Value) w_24 rfl rfl rfl (by kernel_rfl) ?_
              obtain ⟨t56_28, hx35, h⟩ := h
              refine y_v (s := Instr.loadAt 3 (.pointer (some (⟨w_10.heap.size, 0, none⟩ : Addr)))) rfl rfl rfl (by kernel_rfl) (rn_load (by kernel_rfl) hx35) ?_
              refine y_nil ?_
              refine y_then (hK34 _ _ ?_)
              refine y_block ?_
              refine y_seq fun K37 hK37 => ?_
              refine y_region ?_
              refine y_k (.bool ((t56_28 == 0)) : Value) w_24 rfl rfl rfl (by kernel_rfl) ?_
              refine y_k (.bool ((t56_28 == 0)) : Value) w_24 rfl rfl rfl (by kernel_rfl) ?_
              refine y_nil ?_
              refine y_then (hK37 _ _ ?_)
              refine y_cond ((t56_28 == 0)) rfl rfl (fun hb114 => ?_) (fun hb114 => ?_)
              · replace h := h.1 (eq_of_beq hb114)
                refine y_seq fun K38 hK38 => ?_
                refine y_region ?_
                refine y_k (.pointer t22_5 : Value) w_24 rfl rfl rfl (by kernel_rfl) ?_
                refine y_k (.pointer (some ((⟨w_10.heap.size, 0, none⟩ : Addr).add 2)) : Value) w_24 rfl rfl rfl (by kernel_rfl) ?_
                obtain ⟨t61_29, hx39, h⟩ := h
                refine y_v (s := Instr.loadAt 9 (.pointer (some ((⟨w_10.heap.size, 0, none⟩ : Addr).add 2)))) rfl rfl rfl (by kernel_rfl) (rn_load (by kernel_rfl) hx39) ?_
                refine y_k (.pointer (some ((⟨w_10.heap.size, 0, none⟩ : Addr).add 4)) : Value) w_24 rfl rfl rfl (by kernel_rfl) ?_
                obtain ⟨t63_30, hx40, h⟩ := h
                refine y_v (s := Instr.loadAt 3 (.pointer (some ((⟨w_10.heap.size, 0, none⟩ : Addr).add 4)))) rfl rfl rfl (by kernel_rfl) (rn_load (by kernel_rfl) hx40) ?_
                refine y_k (.pointer (some ((⟨w_10.heap.size, 0, none⟩ : Addr).add 5)) : Value) w_24 rfl rfl rfl (by kernel_rfl) ?_
                obtain ⟨t65_31, hx41, h⟩ := h
                refine y_v (s := Instr.loadAt 3 (.pointer (some ((⟨w_10.heap.size, 0, none⟩ : Addr).add 5)))) rfl rfl rfl (by kernel_rfl) (rn_load (by kernel_rfl) hx41) ?_
                refine y_call rfl rfl rfl (by kernel_rfl) (h.mono ?_)
                rintro _ w_33 ⟨t66_32, rfl, h⟩
                refine ⟨_, rfl, ?_⟩
                refine y_k (.int .i64 t66_32 : Value) w_33 rfl rfl rfl (by kernel_rfl) ?_
                refine y_nil ?_
                refine y_then (hK38 _ _ ?_)
                refine y_seq fun K42 hK42 => ?_
                refine y_region ?_
                refine y_k (.bool ((t52_27.toList == tenant0_1.toList)) : Value) w_33 rfl rfl rfl (by kernel_rfl) ?_
                refine y_nil ?_
                refine y_then (hK42 _ _ ?_)
                refine y_cond ((t52_27.toList == tenant0_1.toList)) rfl rfl (fun hb82 => ?_) (fun hb82 => ?_)
                · replace h := h.1 (eq_of_beq hb82)
                  refine y_region ?_
                  refine y_k (.pointer t23_7 : Value) w_33 rfl rfl rfl (by kernel_rfl) ?_
                  refine y_k (.pointer (some ((⟨w_10.heap.size, 0, none⟩ : Addr).add 2)) : Value) w_33 rfl rfl rfl (by kernel_rfl) ?_
                  obtain ⟨t70_34, hx43, h⟩ := h
                  refine y_v (s := Instr.loadAt 9 (.pointer (some ((⟨w_10.heap.size, 0, none⟩ : Addr).add 2)))) rfl rfl rfl (by kernel_rfl) (rn_load (by kernel_rfl) hx43) ?_
                  refine y_k (.pointer (some ((⟨w_10.heap.size, 0, none⟩ : Addr).add 4)) : Value) w_33 rfl rfl rfl (by kernel_rfl) ?_
                  obtain ⟨t72_35, hx44, h⟩ := h
                  refine y_v (s := Instr.loadAt 3 (.pointer (some ((⟨w_10.heap.size, 0, none⟩ : Addr).add 4)))) rfl rfl rfl (by kernel_rfl) (rn_load (by kernel_rfl) hx44) ?_
                  refine y_k (.pointer (some ((⟨w_10.heap.size, 0, none⟩ : Addr).add 5)) : Value) w_33 rfl rfl rfl (by kernel_rfl) ?_
                  obtain ⟨t74_36, hx45, h⟩ := h
                  refine y_v (s := Instr.loadAt 3 (.pointer (some ((⟨w_10.heap.size, 0, none⟩ : Addr).add 5)))) rfl rfl rfl (by kernel_rfl) (rn_load (by kernel_rfl) hx45) ?_
                  refine y_call rfl rfl rfl (by kernel_rfl) (h.mono ?_)
                  rintro _ w_38 ⟨t75_37, rfl, h⟩
                  refine ⟨_, rfl, ?_⟩
                  refine y_k (.int .i64 t75_37 : Value) w_38 rfl rfl rfl (by kernel_rfl) ?_
                  refine y_nil ?_
                  refine e_block_n ?_
                  exact y_then (hjK33 _ t66_32 t75_37 w_38 rfl rfl rfl rfl rfl rfl rfl rfl rfl h)
                · replace h := h.2 (beq_eq_false_iff_ne.mp hb82)
                  refine y_skip ?_
                  refine e_block_n ?_
                  exact y_then (hjK33 _ t66_32 0 w_33 rfl rfl rfl rfl rfl rfl rfl rfl rfl h)
              · replace h := h.2 (beq_eq_false_iff_ne.mp hb114)
                refine y_seq fun K83 hK83 => ?_
                refine y_region ?_
                refine y_k (.bool ((t56_28 == 1)) : Value) w_24 rfl rfl rfl (by kernel_rfl) ?_
                refine y_k (.bool ((t56_28 == 1)) : Value) w_24 rfl rfl rfl (by kernel_rfl) ?_
                refine y_nil ?_
                refine y_then (hK83 _ _ ?_)
                refine y_cond ((t56_28 == 1)) rfl rfl (fun hb113 => ?_) (fun hb113 => ?_)
                · replace h := h.1 (eq_of_beq hb113)
                  refine y_seq fun K84 hK84 => ?_
                  refine y_region ?_
                  refine y_k (.pointer t22_5 : Value) w_24 rfl rfl rfl (by kernel_rfl) ?_
                  refine y_k (.pointer (some ((⟨w_10.heap.size, 0, none⟩ : Addr).add 2)) : Value) w_24 rfl rfl rfl (by kernel_rfl) ?_
                  obtain ⟨t80_92, hx85, h⟩ := h
                  refine y_v (s := Instr.loadAt 9 (.pointer (some ((⟨w_10.heap.size, 0, none⟩ : Addr).add 2)))) rfl rfl rfl (by kernel_rfl) (rn_load (by kernel_rfl) hx85) ?_
                  refine y_call rfl rfl rfl (by kernel_rfl) (h.mono ?_)
                  rintro _ w_94 ⟨t81_93, rfl, h⟩
                  refine ⟨_, rfl, ?_⟩
                  refine y_nil ?_
                  refine y_then (hK84 _ _ ?_)
                  refine y_seq fun K86 hK86 => ?_
                  refine y_region ?_
                  refine y_k (.bool ((t52_27.toList == tenant0_1.toList)) : Value) w_94 rfl rfl rfl (by kernel_rfl) ?_
                  refine y_nil ?_
                  refine y_then (hK86 _ _ ?_)
                  refine y_cond ((t52_27.toList == tenant0_1.toList)) rfl rfl (fun hb88 => ?_) (fun hb88 => ?_)
                  · replace h := h.1 (eq_of_beq hb88)
                    refine y_region ?_
                    refine y_k (.pointer t23_7 : Value) w_94 rfl rfl rfl (by kernel_rfl) ?_
                    refine y_k (.pointer (some ((⟨w_10.heap.size, 0, none⟩ : Addr).add 2)) : Value) w_94 rfl rfl rfl (by kernel_rfl) ?_
                    obtain ⟨t85_95, hx87, h⟩ := h
                    refine y_v (s := Instr.loadAt 9 (.pointer (some ((⟨w_10.heap.size, 0, none⟩ : Addr).add 2)))) rfl rfl rfl (by kernel_rfl) (rn_load (by kernel_rfl) hx87) ?_
                    refine y_call rfl rfl rfl (by kernel_rfl) (h.mono ?_)
                    rintro _ w_97 ⟨t86_96, rfl, h⟩
                    refine ⟨_, rfl, ?_⟩
                    refine y_nil ?_
                    refine e_block_n ?_
                    exact y_then (hjK33 _ 0 0 w_97 rfl rfl rfl rfl rfl rfl rfl rfl rfl h)
                  · replace h := h.2 (beq_eq_false_iff_ne.mp hb88)
                    refine y_skip ?_
                    refine e_block_n ?_
                    exact y_then (hjK33 _ 0 0 w_94 rfl rfl rfl rfl rfl rfl rfl rfl rfl h)
                · replace h := h.2 (beq_eq_false_iff_ne.mp hb113)
                  refine y_seq fun K89 hK89 => ?_
                  have hjK89 : ∀ (f : Fr) (t87_98 : Bool) (w_99 : World), f 0 = (.string tenant0_1 : Value) → f 1 = (.slice script1_2.a script1_2.n script1_2.c : Value) → f 6 = (.pointer t22_5 : Value) → f 7 = (.pointer t23_7 : Value) → f 8 = (.int .i64 i8_9 : Value) → f 9 = (.pointer (some (⟨w_10.heap.size, 0, none⟩ : Addr)) : Value) → f 10 = (.int .i64 0 : Value) → f 11 = (.int .i64 0 : Value) → f 12 = (.bool ((t52_27.toList == tenant0_1.toList)) : Value) → f 56 = (.int .i64 t56_28 : Value) → f 87 = (.bool t87_98 : Value) → F10_j4 tenant0_1 K t22_5 t23_7 i8_9 next15 w_10 t52_27 t56_28 t87_98 w_99 → WK K89 180 f w_99 := by
                    intro f t87_98 w_99 e0 e1 e6 e7 e8 e9 e10 e11 e12 e56 e87 h
                    refine y_atf (upd_id (upd_id (upd_id (upd_id (upd_id (upd_id (upd_id (upd_id (upd_id (upd_id (upd_id rfl e0) e1) e6) e7) e8) e9) e10) e11) e12) e56) e87) ?_
                    clear e0 e1 e6 e7 e8 e9 e10 e11 e12 e56 e87
                    unfold F10_j4 at h
                    refine hK89 _ _ ?_
                    refine y_cond (t87_98) rfl rfl (fun hb111 => ?_) (fun hb111 => ?_)
                    · replace h := h.1 (hb111)
                      refine y_seq fun K91 hK91 => ?_
                      refine y_region ?_
                      refine y_k (.pointer t22_5 : Value) w_99 rfl rfl rfl (by kernel_rfl) ?_
                      refine y_k (.pointer (some ((⟨w_10.heap.size, 0, none⟩ : Addr).add 2)) : Value) w_99 rfl rfl rfl (by kernel_rfl) ?_
                      obtain ⟨t92_100, hx92, h⟩ := h
                      refine y_v (s := Instr.loadAt 9 (.pointer (some ((⟨w_10.heap.size, 0, none⟩ : Addr).add 2)))) rfl rfl rfl (by kernel_rfl) (rn_load (by kernel_rfl) hx92) ?_
                      refine y_k (.pointer (some ((⟨w_10.heap.size, 0, none⟩ : Addr).add 3)) : Value) w_99 rfl rfl rfl (by kernel_rfl) ?_
                      obtain ⟨t94_101, hx93, h⟩ := h
                      refine y_v (s := Instr.loadAt 2 (.pointer (some ((⟨w_10.heap.size, 0, none⟩ : Addr).add 3)))) rfl rfl rfl (by kernel_rfl) (rn_load (by kernel_rfl) hx93) ?_
                      refine y_k (.pointer (some ((⟨w_10.heap.size, 0, none⟩ : Addr).add 4)) : Value) w_99 rfl rfl rfl (by kernel_rfl) ?_
                      obtain ⟨t96_102, hx94, h⟩ := h
                      refine y_v (s := Instr.loadAt 3 (.pointer (some ((⟨w_10.heap.size, 0, none⟩ : Addr).add 4)))) rfl rfl rfl (by kernel_rfl) (rn_load (by kernel_rfl) hx94) ?_
                      refine y_k (.pointer (some ((⟨w_10.heap.size, 0, none⟩ : Addr).add 5)) : Value) w_99 rfl rfl rfl (by kernel_rfl) ?_
                      obtain ⟨t98_103, hx95, h⟩ := h
                      refine y_v (s := Instr.loadAt 3 (.pointer (some ((⟨w_10.heap.size, 0, none⟩ : Addr).add 5)))) rfl rfl rfl (by kernel_rfl) (rn_load (by kernel_rfl) hx95) ?_
                      refine y_call rfl rfl rfl (by kernel_rfl) (h.mono ?_)
                      rintro _ w_105 ⟨t99_104, rfl, h⟩
                      refine ⟨_, rfl, ?_⟩
                      refine y_k (.int .i64 t99_104 : Value) w_105 rfl rfl rfl (by kernel_rfl) ?_
                      refine y_nil ?_
                      refine y_then (hK91 _ _ ?_)
                      refine y_seq fun K96 hK96 => ?_
                      refine y_region ?_
                      refine y_k (.bool ((t52_27.toList == tenant0_1.toList)) : Value) w_105 rfl rfl rfl (by kernel_rfl) ?_
                      refine y_nil ?_
                      refine y_then (hK96 _ _ ?_)
                      refine y_cond ((t52_27.toList == tenant0_1.toList)) rfl rfl (fun hb101 => ?_) (fun hb101 => ?_)
                      · replace h := h.1 (eq_of_beq hb101)
                        refine y_region ?_
                        refine y_k (.pointer t23_7 : Value) w_105 rfl rfl rfl (by kernel_rfl) ?_
                        refine y_k (.pointer (some ((⟨w_10.heap.size, 0, none⟩ : Addr).add 2)) : Value) w_105 rfl rfl rfl (by kernel_rfl) ?_
                        obtain ⟨t103_106, hx97, h⟩ := h
                        refine y_v (s := Instr.loadAt 9 (.pointer (some ((⟨w_10.heap.size, 0, none⟩ : Addr).add 2)))) rfl rfl rfl (by kernel_rfl) (rn_load (by kernel_rfl) hx97) ?_
                        refine y_k (.pointer (some ((⟨w_10.heap.size, 0, none⟩ : Addr).add 3)) : Value) w_105 rfl rfl rfl (by kernel_rfl) ?_
                        obtain ⟨t105_107, hx98, h⟩ := h
                        refine y_v (s := Instr.loadAt 2 (.pointer (some ((⟨w_10.heap.size, 0, none⟩ : Addr).add 3)))) rfl rfl rfl (by kernel_rfl) (rn_load (by kernel_rfl) hx98) ?_
                        refine y_k (.pointer (some ((⟨w_10.heap.size, 0, none⟩ : Addr).add 4)) : Value) w_105 rfl rfl rfl (by kernel_rfl) ?_
                        obtain ⟨t107_108, hx99, h⟩ := h
                        refine y_v (s := Instr.loadAt 3 (.pointer (some ((⟨w_10.heap.size, 0, none⟩ : Addr).add 4)))) rfl rfl rfl (by kernel_rfl) (rn_load (by kernel_rfl) hx99) ?_
                        refine y_k (.pointer (some ((⟨w_10.heap.size, 0, none⟩ : Addr).add 5)) : Value) w_105 rfl rfl rfl (by kernel_rfl) ?_
                        obtain ⟨t109_109, hx100, h⟩ := h
                        refine y_v (s := Instr.loadAt 3 (.pointer (some ((⟨w_10.heap.size, 0, none⟩ : Addr).add 5)))) rfl rfl rfl (by kernel_rfl) (rn_load (by kernel_rfl) hx100) ?_
                        refine y_call rfl rfl rfl (by kernel_rfl) (h.mono ?_)
                        rintro _ w_111 ⟨t110_110, rfl, h⟩
                        refine ⟨_, rfl, ?_⟩
                        refine y_k (.int .i64 t110_110 : Value) w_111 rfl rfl rfl (by kernel_rfl) ?_
                        refine y_nil ?_
                        refine e_block_n ?_
                        exact y_then (hjK33 _ t99_104 t110_110 w_111 rfl rfl rfl rfl rfl rfl rfl rfl rfl h)
                      · replace h := h.2 (beq_eq_false_iff_ne.mp hb101)
                        refine y_skip ?_
                        refine e_block_n ?_
                        exact y_then (hjK33 _ t99_104 0 w_105 rfl rfl rfl rfl rfl rfl rfl rfl rfl h)
                    · replace h := h.2 (hb111)
                      refine y_seq fun K102 hK102 => ?_
                      refine y_region ?_
                      refine y_k (.bool ((t56_28 == 4)) : Value) w_99 rfl rfl rfl (by kernel_rfl) ?_
                      refine y_k (.bool ((t56_28 == 4)) : Value) w_99 rfl rfl rfl (by kernel_rfl) ?_
                      refine y_nil ?_
                      refine y_then (hK102 _ _ ?_)
                      refine y_cond ((t56_28 == 4)) rfl rfl (fun hb110 => ?_) (fun hb110 => ?_)
                      · replace h := h.1 (eq_of_beq hb110)
                        refine y_seq fun K103 hK103 => ?_
                        refine y_region ?_
                        refine y_k (.pointer t22_5 : Value) w_99 rfl rfl rfl (by kernel_rfl) ?_
                        refine y_k (.pointer (some ((⟨w_10.heap.size, 0, none⟩ : Addr).add 2)) : Value) w_99 rfl rfl rfl (by kernel_rfl) ?_
                        obtain ⟨t115_112, hx104, h⟩ := h
                        refine y_v (s := Instr.loadAt 9 (.pointer (some ((⟨w_10.heap.size, 0, none⟩ : Addr).add 2)))) rfl rfl rfl (by kernel_rfl) (rn_load (by kernel_rfl) hx104) ?_
                        refine y_k (.pointer (some ((⟨w_10.heap.size, 0, none⟩ : Addr).add 6)) : Value) w_99 rfl rfl rfl (by kernel_rfl) ?_
                        obtain ⟨t117_113, t117_114, t117_115, t117_116, t117_117, hx105, h⟩ := h
                        refine y_v (s := Instr.loadAt 87 (.pointer (some ((⟨w_10.heap.size, 0, none⟩ : Addr).add 6)))) rfl rfl rfl (by kernel_rfl) (rn_loadcells (k := 5) ⟨by kernel_rfl, by kernel_rfl⟩ rfl hx105) ?_
                        refine y_call rfl rfl rfl (by kernel_rfl) (h.mono ?_)
                        rintro _ w_119 ⟨t118_118, rfl, h⟩
                        refine ⟨_, rfl, ?_⟩
                        refine y_k (.int .i64 t118_118 : Value) w_119 rfl rfl rfl (by kernel_rfl) ?_
                        refine y_nil ?_
                        refine y_then (hK103 _ _ ?_)
                        refine y_seq fun K106 hK106 => ?_
                        refine y_region ?_
                        refine y_k (.bool ((t52_27.toList == tenant0_1.toList)) : Value) w_119 rfl rfl rfl (by kernel_rfl) ?_
                        refine y_nil ?_
                        refine y_then (hK106 _ _ ?_)
                        refine y_cond ((t52_27.toList == tenant0_1.toList)) rfl rfl (fun hb109 => ?_) (fun hb109 => ?_)
                        · replace h := h.1 (eq_of_beq hb109)
                          refine y_region ?_
                          refine y_k (.pointer t23_7 : Value) w_119 rfl rfl rfl (by kernel_rfl) ?_
                          refine y_k (.pointer (some ((⟨w_10.heap.size, 0, none⟩ : Addr).add 2)) : Value) w_119 rfl rfl rfl (by kernel_rfl) ?_
                          obtain ⟨t122_120, hx107, h⟩ := h
                          refine y_v (s := Instr.loadAt 9 (.pointer (some ((⟨w_10.heap.size, 0, none⟩ : Addr).add 2)))) rfl rfl rfl (by kernel_rfl) (rn_load (by kernel_rfl) hx107) ?_
                          refine y_k (.pointer (some ((⟨w_10.heap.size, 0, none⟩ : Addr).add 6)) : Value) w_119 rfl rfl rfl (by kernel_rfl) ?_
                          obtain ⟨t124_121, t124_122, t124_123, t124_124, t124_125, hx108, h⟩ := h
                          refine y_v (s := Instr.loadAt 87 (.pointer (some ((⟨w_10.heap.size, 0, none⟩ : Addr).add 6)))) rfl rfl rfl (by kernel_rfl) (rn_loadcells (k := 5) ⟨by kernel_rfl, by kernel_rfl⟩ rfl hx108) ?_
                          refine y_call rfl rfl rfl (by kernel_rfl) (h.mono ?_)
                          rintro _ w_127 ⟨t125_126, rfl, h⟩
                          refine ⟨_, rfl, ?_⟩
                          refine y_k (.int .i64 t125_126 : Value) w_127 rfl rfl rfl (by kernel_rfl) ?_
                          refine y_nil ?_
                          refine e_block_n ?_
                          exact y_then (hjK33 _ t118_118 t125_126 w_127 rfl rfl rfl rfl rfl rfl rfl rfl rfl h)
                        · replace h := h.2 (beq_eq_false_iff_ne.mp hb109)
                          refine y_skip ?_
                          refine e_block_n ?_
                          exact y_then (hjK33 _ t118_118 0 w_119 rfl rfl rfl rfl rfl rfl rfl rfl rfl h)
                      · replace h := h.2 (beq_eq_false_iff_ne.mp hb110)
                        refine y_skip ?_
                        refine e_block_n ?_
                        exact y_then (hjK33 _ 0 0 w_99 rfl rfl rfl rfl rfl rfl rfl rfl rfl h)
                  refine y_seq fun K90 hK90 => ?_
                  refine y_region ?_
                  refine y_k (.bool ((t56_28 == 2)) : Value) w_24 rfl rfl rfl (by kernel_rfl) ?_
                  refine y_k (.bool ((t56_28 == 2)) : Value) w_24 rfl rfl rfl (by kernel_rfl) ?_
                  refine y_nil ?_
                  refine y_then (hK90 _ _ ?_)
                  refine y_cond ((t56_28 == 2)) rfl rfl (fun hb112 => ?_) (fun hb112 => ?_)
                  · replace h := h.1 (eq_of_beq hb112)
                    refine y_skip ?_
                    exact y_then (hjK89 _ ((t56_28 == 2)) w_24 rfl rfl rfl rfl rfl rfl rfl rfl rfl rfl rfl h)
                  · replace h := h.2 (beq_eq_false_iff_ne.mp hb112)
                    refine y_region ?_
                    refine y_k (.bool ((t56_28 == 3)) : Value) w_24 rfl rfl rfl (by kernel_rfl) ?_
                    refine y_k (.bool ((t56_28 == 3)) : Value) w_24 rfl rfl rfl (by kernel_rfl) ?_
                    refine y_nil ?_
                    exact y_then (hjK89 _ ((t56_28 == 3)) w_24 rfl rfl rfl rfl rfl rfl rfl rfl rfl rfl rfl h)
          · replace h := h.2 (of_decide_eq_false hb117)
            refine y_exit ?_
            repeat (first | refine e_then_x ?_ | refine e_block_y rfl ?_)
            refine e_block_x ?_
            refine y_then (hK12 _ _ ?_)
            refine y_seq fun K116 hK116 => ?_
            refine y_region ?_
            refine y_k (.bool true : Value) w_10 rfl rfl rfl (by kernel_rfl) ?_
            refine y_nil ?_
            refine y_then (hK116 _ _ ?_)
            refine y_ret ?_
            repeat (first | refine e_then_r ?_ | refine e_block_r ?_)
            exact (hQ0 _ _ _ (res1 (v := (.bool true : Value)) rfl rfl rfl) ⟨_, rfl, h⟩).1
        · replace h := h.2 (of_decide_eq_false hb19)
          refine y_frame (upd_id (i := 38) (v := .bool false) rfl (congrArg Value.bool hb19)) ?_
          refine y_gno rfl rfl rfl rfl ?_
          refine y_gno rfl rfl rfl rfl ?_
          refine y_k (.bool false : Value) w_10 rfl rfl rfl (by kernel_rfl) ?_
          refine y_nil ?_
          refine y_then (hK18 _ _ ?_)
          refine y_cond_f rfl rfl ?_
          refine y_exit ?_
          repeat (first | refine e_then_x ?_ | refine e_block_y rfl ?_)
          refine e_block_x ?_
          refine y_then (hK12 _ _ ?_)
          refine y_seq fun K118 hK118 => ?_
          refine y_region ?_
          refine y_k (.bool true : Value) w_10 rfl rfl rfl (by kernel_rfl) ?_
          refine y_nil ?_
          refine y_then (hK118 _ _ ?_)
          refine y_ret ?_
          repeat (first | refine e_then_r ?_ | refine e_block_r ?_)
          exact (hQ0 _ _ _ (res1 (v := (.bool true : Value)) rfl rfl rfl) ⟨_, rfl, h⟩).1

end Go.Proofs.Ythhcaaellhdkiaa
