/- Printed by gen.py (own program, wip/): for each Go function a predicate transformer and its soundness. -/
import Derived.Test.YthhcaaellhdkiaaProg
import Derived.Test.YthhcaaellhdkiaaST
namespace Go.Proofs.Ythhcaaellhdkiaa
open Go Go.RowKit Go.Proofs.Ythhcaaellhdkiaa.SX
set_option linter.unusedVariables false

def F5_l2 (s2_3 : Sl) (K : Bool → World → Prop) (w_12 : World) (f19_48 : Int) (next49 : (Int) → World → Prop) (next57 : (Int) → World → Prop) : (Int) → World → Prop := fun (c20_50) w_51 =>
  (0 : Int) ≤ f19_48 ∧ f19_48 < (3 : Int) ∧ ∃ (a_52 : Addr), some ⟨w_12.heap.size, 0, none⟩ = some a_52 ∧
  ∃ (t137_53 : Sl), w_51.cell? (a_52.add (Int.toNat f19_48)) = some (.slice t137_53.a t137_53.n t137_53.c) ∧
  ((c20_50 < ((t137_53.n : Int)) →
  ((c20_50 < 12 →
  (0 : Int) ≤ f19_48 ∧ f19_48 < (3 : Int) ∧ ∃ (a_54 : Addr), some ⟨w_12.heap.size, 0, none⟩ = some a_54 ∧
  ∃ (t150_55 : Sl), w_51.cell? (a_54.add (Int.toNat f19_48)) = some (.slice t150_55.a t150_55.n t150_55.c) ∧
  ∃ (t152_56 : Sl), (Instr.sliceAt 22 (.slice t150_55.a t150_55.n t150_55.c : Value) none (some (.int .i64 c20_50 : Value)) none).run Try.prog w_51 = .ok (.slice t152_56.a t152_56.n t152_56.c : Value) w_51 ∧
  Calls Try.prog 24 #[.slice t152_56.a t152_56.n t152_56.c] w_51 fun e w_59 => ∃ (t153_57 : Int), ∃ (t153_58 : Int), e = .returned (.tuple #[.int .u64 t153_57, .int .i64 t153_58] : Value) ∧
  (0 : Int) ≤ f19_48 ∧ f19_48 < (3 : Int) ∧ ∃ (a_60 : Addr), some ⟨w_12.heap.size, 0, none⟩ = some a_60 ∧
  ∃ (t160_61 : Sl), w_59.cell? (a_60.add (Int.toNat f19_48)) = some (.slice t160_61.a t160_61.n t160_61.c) ∧
  ∃ (t162_62 : Sl), (Instr.sliceAt 22 (.slice t160_61.a t160_61.n t160_61.c : Value) none (some (.int .i64 c20_50 : Value)) none).run Try.prog w_59 = .ok (.slice t162_62.a t162_62.n t162_62.c : Value) w_59 ∧
  Calls Try.prog 25 #[.slice t162_62.a t162_62.n t162_62.c] w_59 fun e w_65 => ∃ (t163_63 : Int), ∃ (t163_64 : Int), e = .returned (.tuple #[.int .i64 t163_63, .int .i64 t163_64] : Value) ∧
  (0 : Int) ≤ f19_48 ∧ f19_48 < (3 : Int) ∧ ∃ (a_66 : Addr), some ⟨w_12.heap.size, 0, none⟩ = some a_66 ∧
  ∃ (t170_67 : Sl), w_65.cell? (a_66.add (Int.toNat f19_48)) = some (.slice t170_67.a t170_67.n t170_67.c) ∧
  ∃ (t172_68 : Sl), (Instr.sliceAt 22 (.slice t170_67.a t170_67.n t170_67.c : Value) none (some (.int .i64 c20_50 : Value)) none).run Try.prog w_65 = .ok (.slice t172_68.a t172_68.n t172_68.c : Value) w_65 ∧
  Calls Try.prog 26 #[.slice t172_68.a t172_68.n t172_68.c, .int .i64 ((s2_3.n : Int))] w_65 fun e w_71 => ∃ (t175_69 : Sl), ∃ (t175_70 : Int), e = .returned (.tuple #[.slice t175_69.a t175_69.n t175_69.c, .int .i64 t175_70] : Value) ∧
  ((f19_48 < 2 →
  ((¬ t153_58 = 0 →
  K false w_71) ∧
  (t153_58 = 0 →
  ((¬ t163_64 = 0 →
  K false w_71) ∧
  (t163_64 = 0 →
  ((f19_48 = 2 →
  ((¬ t175_70 = 0 →
  K false w_71) ∧
  (t175_70 = 0 →
  next57 (IntKind.i64.wrap (c20_50 + 1)) w_71))) ∧
  (¬ f19_48 = 2 →
  next57 (IntKind.i64.wrap (c20_50 + 1)) w_71))))))) ∧
  (¬ (f19_48 < 2) →
  ((f19_48 = 2 →
  ((¬ t175_70 = 0 →
  K false w_71) ∧
  (t175_70 = 0 →
  next57 (IntKind.i64.wrap (c20_50 + 1)) w_71))) ∧
  (¬ f19_48 = 2 →
  next57 (IntKind.i64.wrap (c20_50 + 1)) w_71))))) ∧
  (¬ (c20_50 < 12) →
  next49 (IntKind.i64.wrap (f19_48 + 1)) w_51))) ∧
  (¬ (c20_50 < ((t137_53.n : Int))) →
  next49 (IntKind.i64.wrap (f19_48 + 1)) w_51))
def F5_j3 (K : Bool → World → Prop) (t8_82 : Bool) (w_83 : World) : Prop :=
  K t8_82 w_83
def F5_l1 (s2_3 : Sl) (b3_4 : Sl) (K : Bool → World → Prop) (w_12 : World) (next49 : (Int) → World → Prop) : (Int) → World → Prop := fun (f19_48) w_49 =>
  ((f19_48 < 3 →
  kLoop (F5_l2 s2_3 K w_12 f19_48 next49) (0) w_49) ∧
  (¬ (f19_48 < 3) →
  Calls Try.prog 24 #[.slice b3_4.a b3_4.n b3_4.c] w_49 fun e w_74 => ∃ (t198_72 : Int), ∃ (t198_73 : Int), e = .returned (.tuple #[.int .u64 t198_72, .int .i64 t198_73] : Value) ∧
  Calls Try.prog 25 #[.slice b3_4.a b3_4.n b3_4.c] w_74 fun e w_77 => ∃ (t203_75 : Int), ∃ (t203_76 : Int), e = .returned (.tuple #[.int .i64 t203_75, .int .i64 t203_76] : Value) ∧
  Calls Try.prog 26 #[.slice b3_4.a b3_4.n b3_4.c, .int .i64 ((b3_4.n : Int))] w_77 fun e w_80 => ∃ (t210_78 : Sl), ∃ (t210_79 : Int), e = .returned (.tuple #[.slice t210_78.a t210_78.n t210_78.c, .int .i64 t210_79] : Value) ∧
  ((t198_73 < 0 →
  K false w_80) ∧
  (¬ (t198_73 < 0) →
  ((t203_76 < 0 →
  K false w_80) ∧
  (¬ (t203_76 < 0) →
  ((t210_79 < 0 →
  K false w_80) ∧
  (¬ (t210_79 < 0) →
  ((t198_73 > ((b3_4.n : Int)) →
  K false w_80) ∧
  (¬ (t198_73 > ((b3_4.n : Int))) →
  ((t203_76 > ((b3_4.n : Int)) →
  K false w_80) ∧
  (¬ (t203_76 > ((b3_4.n : Int))) →
  ((t210_79 > ((b3_4.n : Int)) →
  K false w_80) ∧
  (¬ (t210_79 > ((b3_4.n : Int))) →
  ∀ (w_81 : World), w_81 = w_80.drew →
  ((t198_73 = 0 →
  ((t203_76 = 0 →
  ((t210_79 = 0 →
  F5_j3 K true w_81) ∧
  (¬ t210_79 = 0 →
  ∃ (t276_84 : Sl), (Instr.sliceAt 22 (.slice b3_4.a b3_4.n b3_4.c : Value) none (some (.int .i64 t210_79 : Value)) none).run Try.prog w_81 = .ok (.slice t276_84.a t276_84.n t276_84.c : Value) w_81 ∧
  ∃ (t277_85 : ByteArray), (convert 22 9 (.slice t276_84.a t276_84.n t276_84.c : Value)).run Try.prog w_81 = .ok (.string t277_85 : Value) w_81 ∧
  Calls Try.prog 19 #[.slice none 0 0, .slice t210_78.a t210_78.n t210_78.c] w_81 fun e w_87 => ∃ (t272_86 : Sl), e = .returned (.slice t272_86.a t272_86.n t272_86.c : Value) ∧ (convert 22 9 (.slice t276_84.a t276_84.n t276_84.c : Value)).run Try.prog w_87 = .ok (.string t277_85 : Value) w_87 ∧ (Instr.sliceAt 22 (.slice b3_4.a b3_4.n b3_4.c : Value) none (some (.int .i64 t210_79 : Value)) none).run Try.prog w_87 = .ok (.slice t276_84.a t276_84.n t276_84.c : Value) w_87 ∧ 
  ∃ (t273_88 : ByteArray), (convert 22 9 (.slice t272_86.a t272_86.n t272_86.c : Value)).run Try.prog w_87 = .ok (.string t273_88 : Value) w_87 ∧
  F5_j3 K ((t273_88.toList == t277_85.toList)) w_87))) ∧
  (¬ t203_76 = 0 →
  ∃ (t262_89 : Sl), (Instr.sliceAt 22 (.slice b3_4.a b3_4.n b3_4.c : Value) none (some (.int .i64 t203_76 : Value)) none).run Try.prog w_81 = .ok (.slice t262_89.a t262_89.n t262_89.c : Value) w_81 ∧
  ∃ (t263_90 : ByteArray), (convert 22 9 (.slice t262_89.a t262_89.n t262_89.c : Value)).run Try.prog w_81 = .ok (.string t263_90 : Value) w_81 ∧
  Calls Try.prog 18 #[.slice none 0 0, .int .i64 t203_75] w_81 fun e w_92 => ∃ (t258_91 : Sl), e = .returned (.slice t258_91.a t258_91.n t258_91.c : Value) ∧ (convert 22 9 (.slice t262_89.a t262_89.n t262_89.c : Value)).run Try.prog w_92 = .ok (.string t263_90 : Value) w_92 ∧ (Instr.sliceAt 22 (.slice b3_4.a b3_4.n b3_4.c : Value) none (some (.int .i64 t203_76 : Value)) none).run Try.prog w_92 = .ok (.slice t262_89.a t262_89.n t262_89.c : Value) w_92 ∧ 
  ∃ (t259_93 : ByteArray), (convert 22 9 (.slice t258_91.a t258_91.n t258_91.c : Value)).run Try.prog w_92 = .ok (.string t259_93 : Value) w_92 ∧
  ((t259_93.toList = t263_90.toList →
  ((t210_79 = 0 →
  F5_j3 K true w_92) ∧
  (¬ t210_79 = 0 →
  ∃ (t276_94 : Sl), (Instr.sliceAt 22 (.slice b3_4.a b3_4.n b3_4.c : Value) none (some (.int .i64 t210_79 : Value)) none).run Try.prog w_92 = .ok (.slice t276_94.a t276_94.n t276_94.c : Value) w_92 ∧
  ∃ (t277_95 : ByteArray), (convert 22 9 (.slice t276_94.a t276_94.n t276_94.c : Value)).run Try.prog w_92 = .ok (.string t277_95 : Value) w_92 ∧
  Calls Try.prog 19 #[.slice none 0 0, .slice t210_78.a t210_78.n t210_78.c] w_92 fun e w_97 => ∃ (t272_96 : Sl), e = .returned (.slice t272_96.a t272_96.n t272_96.c : Value) ∧ (convert 22 9 (.slice t276_94.a t276_94.n t276_94.c : Value)).run Try.prog w_97 = .ok (.string t277_95 : Value) w_97 ∧ (Instr.sliceAt 22 (.slice b3_4.a b3_4.n b3_4.c : Value) none (some (.int .i64 t210_79 : Value)) none).run Try.prog w_97 = .ok (.slice t276_94.a t276_94.n t276_94.c : Value) w_97 ∧ 
  ∃ (t273_98 : ByteArray), (convert 22 9 (.slice t272_96.a t272_96.n t272_96.c : Value)).run Try.prog w_97 = .ok (.string t273_98 : Value) w_97 ∧
  F5_j3 K ((t273_98.toList == t277_95.toList)) w_97))) ∧
  (¬ t259_93.toList = t263_90.toList →
  F5_j3 K false w_92))))) ∧
  (¬ t198_73 = 0 →
  ∃ (t249_99 : Sl), (Instr.sliceAt 22 (.slice b3_4.a b3_4.n b3_4.c : Value) none (some (.int .i64 t198_73 : Value)) none).run Try.prog w_81 = .ok (.slice t249_99.a t249_99.n t249_99.c : Value) w_81 ∧
  ∃ (t250_100 : ByteArray), (convert 22 9 (.slice t249_99.a t249_99.n t249_99.c : Value)).run Try.prog w_81 = .ok (.string t250_100 : Value) w_81 ∧
  Calls Try.prog 17 #[.slice none 0 0, .int .u64 t198_72] w_81 fun e w_102 => ∃ (t245_101 : Sl), e = .returned (.slice t245_101.a t245_101.n t245_101.c : Value) ∧ (convert 22 9 (.slice t249_99.a t249_99.n t249_99.c : Value)).run Try.prog w_102 = .ok (.string t250_100 : Value) w_102 ∧ (Instr.sliceAt 22 (.slice b3_4.a b3_4.n b3_4.c : Value) none (some (.int .i64 t198_73 : Value)) none).run Try.prog w_102 = .ok (.slice t249_99.a t249_99.n t249_99.c : Value) w_102 ∧ 
  ∃ (t246_103 : ByteArray), (convert 22 9 (.slice t245_101.a t245_101.n t245_101.c : Value)).run Try.prog w_102 = .ok (.string t246_103 : Value) w_102 ∧
  ((t246_103.toList = t250_100.toList →
  ((t203_76 = 0 →
  ((t210_79 = 0 →
  F5_j3 K true w_102) ∧
  (¬ t210_79 = 0 →
  ∃ (t276_104 : Sl), (Instr.sliceAt 22 (.slice b3_4.a b3_4.n b3_4.c : Value) none (some (.int .i64 t210_79 : Value)) none).run Try.prog w_102 = .ok (.slice t276_104.a t276_104.n t276_104.c : Value) w_102 ∧
  ∃ (t277_105 : ByteArray), (convert 22 9 (.slice t276_104.a t276_104.n t276_104.c : Value)).run Try.prog w_102 = .ok (.string t277_105 : Value) w_102 ∧
  Calls Try.prog 19 #[.slice none 0 0, .slice t210_78.a t210_78.n t210_78.c] w_102 fun e w_107 => ∃ (t272_106 : Sl), e = .returned (.slice t272_106.a t272_106.n t272_106.c : Value) ∧ (convert 22 9 (.slice t276_104.a t276_104.n t276_104.c : Value)).run Try.prog w_107 = .ok (.string t277_105 : Value) w_107 ∧ (Instr.sliceAt 22 (.slice b3_4.a b3_4.n b3_4.c : Value) none (some (.int .i64 t210_79 : Value)) none).run Try.prog w_107 = .ok (.slice t276_104.a t276_104.n t276_104.c : Value) w_107 ∧ 
  ∃ (t273_108 : ByteArray), (convert 22 9 (.slice t272_106.a t272_106.n t272_106.c : Value)).run Try.prog w_107 = .ok (.string t273_108 : Value) w_107 ∧
  F5_j3 K ((t273_108.toList == t277_105.toList)) w_107))) ∧
  (¬ t203_76 = 0 →
  ∃ (t262_109 : Sl), (Instr.sliceAt 22 (.slice b3_4.a b3_4.n b3_4.c : Value) none (some (.int .i64 t203_76 : Value)) none).run Try.prog w_102 = .ok (.slice t262_109.a t262_109.n t262_109.c : Value) w_102 ∧
  ∃ (t263_110 : ByteArray), (convert 22 9 (.slice t262_109.a t262_109.n t262_109.c : Value)).run Try.prog w_102 = .ok (.string t263_110 : Value) w_102 ∧
  Calls Try.prog 18 #[.slice none 0 0, .int .i64 t203_75] w_102 fun e w_112 => ∃ (t258_111 : Sl), e = .returned (.slice t258_111.a t258_111.n t258_111.c : Value) ∧ (convert 22 9 (.slice t262_109.a t262_109.n t262_109.c : Value)).run Try.prog w_112 = .ok (.string t263_110 : Value) w_112 ∧ (Instr.sliceAt 22 (.slice b3_4.a b3_4.n b3_4.c : Value) none (some (.int .i64 t203_76 : Value)) none).run Try.prog w_112 = .ok (.slice t262_109.a t262_109.n t262_109.c : Value) w_112 ∧ 
  ∃ (t259_113 : ByteArray), (convert 22 9 (.slice t258_111.a t258_111.n t258_111.c : Value)).run Try.prog w_112 = .ok (.string t259_113 : Value) w_112 ∧
  ((t259_113.toList = t263_110.toList →
  ((t210_79 = 0 →
  F5_j3 K true w_112) ∧
  (¬ t210_79 = 0 →
  ∃ (t276_114 : Sl), (Instr.sliceAt 22 (.slice b3_4.a b3_4.n b3_4.c : Value) none (some (.int .i64 t210_79 : Value)) none).run Try.prog w_112 = .ok (.slice t276_114.a t276_114.n t276_114.c : Value) w_112 ∧
  ∃ (t277_115 : ByteArray), (convert 22 9 (.slice t276_114.a t276_114.n t276_114.c : Value)).run Try.prog w_112 = .ok (.string t277_115 : Value) w_112 ∧
  Calls Try.prog 19 #[.slice none 0 0, .slice t210_78.a t210_78.n t210_78.c] w_112 fun e w_117 => ∃ (t272_116 : Sl), e = .returned (.slice t272_116.a t272_116.n t272_116.c : Value) ∧ (convert 22 9 (.slice t276_114.a t276_114.n t276_114.c : Value)).run Try.prog w_117 = .ok (.string t277_115 : Value) w_117 ∧ (Instr.sliceAt 22 (.slice b3_4.a b3_4.n b3_4.c : Value) none (some (.int .i64 t210_79 : Value)) none).run Try.prog w_117 = .ok (.slice t276_114.a t276_114.n t276_114.c : Value) w_117 ∧ 
  ∃ (t273_118 : ByteArray), (convert 22 9 (.slice t272_116.a t272_116.n t272_116.c : Value)).run Try.prog w_117 = .ok (.string t273_118 : Value) w_117 ∧
  F5_j3 K ((t273_118.toList == t277_115.toList)) w_117))) ∧
  (¬ t259_113.toList = t263_110.toList →
  F5_j3 K false w_112))))) ∧
  (¬ t246_103.toList = t250_100.toList →
  F5_j3 K false w_102))))))))))))))))))
/-- turnkey/turnkeylaw01.NumBack -/
def F5 (n0_1 : Int) (m1_2 : Int) (s2_3 : Sl) (b3_4 : Sl) (K : Bool → World → Prop) (w : World) : Prop :=
  Calls Try.prog 12 #[] w fun e w_6 => ∃ (t27_5 : Bool), e = .returned (.bool t27_5 : Value) ∧
  ((t27_5 = false →
  K t27_5 w_6) ∧
  (t27_5 = true →
  ((((b3_4.n : Int)) > 536870912 →
  K t27_5 w_6) ∧
  (¬ (((b3_4.n : Int)) > 536870912) →
  ((((s2_3.n : Int)) > 536870912 →
  K t27_5 w_6) ∧
  (¬ (((s2_3.n : Int)) > 536870912) →
  Calls Try.prog 17 #[.slice none 0 0, .int .u64 n0_1] w_6 fun e w_8 => ∃ (t42_7 : Sl), e = .returned (.slice t42_7.a t42_7.n t42_7.c : Value) ∧
  Calls Try.prog 18 #[.slice none 0 0, .int .i64 m1_2] w_8 fun e w_10 => ∃ (t44_9 : Sl), e = .returned (.slice t44_9.a t44_9.n t44_9.c : Value) ∧
  Calls Try.prog 19 #[.slice none 0 0, .slice s2_3.a s2_3.n s2_3.c] w_10 fun e w_12 => ∃ (t46_11 : Sl), e = .returned (.slice t46_11.a t46_11.n t46_11.c : Value) ∧
  ∀ (w_13 : World), w_13 = w_12.alloc (.cells #[.slice t42_7.a t42_7.n t42_7.c, .slice t44_9.a t44_9.n t44_9.c, .slice t46_11.a t46_11.n t46_11.c] 22) →
  Calls Try.prog 17 #[.slice none 0 0, .int .u64 n0_1] w_13 fun e w_15 => ∃ (t50_14 : Sl), e = .returned (.slice t50_14.a t50_14.n t50_14.c : Value) ∧
  ∃ (t52_16 : Sl), ∃ (w_17 : World), (Builtin.append_ #[22, 22] 22 #[.slice t50_14.a t50_14.n t50_14.c, .slice b3_4.a b3_4.n b3_4.c]).run Try.prog w_15 = .ok (.slice t52_16.a t52_16.n t52_16.c : Value) w_17 ∧
  Calls Try.prog 24 #[.slice t52_16.a t52_16.n t52_16.c] w_17 fun e w_20 => ∃ (t53_18 : Int), ∃ (t53_19 : Int), e = .returned (.tuple #[.int .u64 t53_18, .int .i64 t53_19] : Value) ∧
  Calls Try.prog 18 #[.slice none 0 0, .int .i64 m1_2] w_20 fun e w_22 => ∃ (t58_21 : Sl), e = .returned (.slice t58_21.a t58_21.n t58_21.c : Value) ∧
  ∃ (t60_23 : Sl), ∃ (w_24 : World), (Builtin.append_ #[22, 22] 22 #[.slice t58_21.a t58_21.n t58_21.c, .slice b3_4.a b3_4.n b3_4.c]).run Try.prog w_22 = .ok (.slice t60_23.a t60_23.n t60_23.c : Value) w_24 ∧
  Calls Try.prog 25 #[.slice t60_23.a t60_23.n t60_23.c] w_24 fun e w_27 => ∃ (t61_25 : Int), ∃ (t61_26 : Int), e = .returned (.tuple #[.int .i64 t61_25, .int .i64 t61_26] : Value) ∧
  Calls Try.prog 19 #[.slice none 0 0, .slice s2_3.a s2_3.n s2_3.c] w_27 fun e w_29 => ∃ (t66_28 : Sl), e = .returned (.slice t66_28.a t66_28.n t66_28.c : Value) ∧
  ∃ (t68_30 : Sl), ∃ (w_31 : World), (Builtin.append_ #[22, 22] 22 #[.slice t66_28.a t66_28.n t66_28.c, .slice b3_4.a b3_4.n b3_4.c]).run Try.prog w_29 = .ok (.slice t68_30.a t68_30.n t68_30.c : Value) w_31 ∧
  Calls Try.prog 26 #[.slice t68_30.a t68_30.n t68_30.c, .int .i64 ((s2_3.n : Int))] w_31 fun e w_34 => ∃ (t71_32 : Sl), ∃ (t71_33 : Int), e = .returned (.tuple #[.slice t71_32.a t71_32.n t71_32.c, .int .i64 t71_33] : Value) ∧
  ((t27_5 = false →
  K false w_34) ∧
  (t27_5 = true →
  ((¬ t53_18 = n0_1 →
  K false w_34) ∧
  (t53_18 = n0_1 →
  ((¬ t61_25 = m1_2 →
  K false w_34) ∧
  (t61_25 = m1_2 →
  ∃ (t88_35 : ByteArray), (convert 22 9 (.slice t71_32.a t71_32.n t71_32.c : Value)).run Try.prog w_34 = .ok (.string t88_35 : Value) w_34 ∧
  ∃ (t90_36 : ByteArray), (convert 22 9 (.slice s2_3.a s2_3.n s2_3.c : Value)).run Try.prog w_34 = .ok (.string t90_36 : Value) w_34 ∧
  ((¬ t88_35.toList = t90_36.toList →
  K false w_34) ∧
  (t88_35.toList = t90_36.toList →
  (0 : Int) ≤ 0 ∧ 0 < (3 : Int) ∧ ∃ (a_37 : Addr), some ⟨w_12.heap.size, 0, none⟩ = some a_37 ∧
  ∃ (t97_38 : Sl), w_34.cell? (a_37.add (Int.toNat 0)) = some (.slice t97_38.a t97_38.n t97_38.c) ∧
  ((¬ t53_19 = (((t97_38.n : Int))) →
  K false w_34) ∧
  (t53_19 = (((t97_38.n : Int))) →
  (0 : Int) ≤ 1 ∧ 1 < (3 : Int) ∧ ∃ (a_39 : Addr), some ⟨w_12.heap.size, 0, none⟩ = some a_39 ∧
  ∃ (t105_40 : Sl), w_34.cell? (a_39.add (Int.toNat 1)) = some (.slice t105_40.a t105_40.n t105_40.c) ∧
  ((¬ t61_26 = (((t105_40.n : Int))) →
  K false w_34) ∧
  (t61_26 = (((t105_40.n : Int))) →
  (0 : Int) ≤ 2 ∧ 2 < (3 : Int) ∧ ∃ (a_41 : Addr), some ⟨w_12.heap.size, 0, none⟩ = some a_41 ∧
  ∃ (t113_42 : Sl), w_34.cell? (a_41.add (Int.toNat 2)) = some (.slice t113_42.a t113_42.n t113_42.c) ∧
  ((¬ t71_33 = (((t113_42.n : Int))) →
  K false w_34) ∧
  (t71_33 = (((t113_42.n : Int))) →
  (0 : Int) ≤ 2 ∧ 2 < (3 : Int) ∧ ∃ (a_43 : Addr), some ⟨w_12.heap.size, 0, none⟩ = some a_43 ∧
  ∃ (t120_44 : Sl), w_34.cell? (a_43.add (Int.toNat 2)) = some (.slice t120_44.a t120_44.n t120_44.c) ∧
  Calls Try.prog 26 #[.slice t120_44.a t120_44.n t120_44.c, .int .i64 (IntKind.i64.wrap (((s2_3.n : Int)) - 1))] w_34 fun e w_47 => ∃ (t124_45 : Sl), ∃ (t124_46 : Int), e = .returned (.tuple #[.slice t124_45.a t124_45.n t124_45.c, .int .i64 t124_46] : Value) ∧
  ((¬ t124_46 = 0 →
  K false w_47) ∧
  (t124_46 = 0 →
  kLoop (F5_l1 s2_3 b3_4 K w_12) (0) w_47))))))))))))))))))))))
set_option maxHeartbeats 4000000 in
set_option maxRecDepth 20000 in
theorem F5_sound (n0_1 : Int) (m1_2 : Int) (s2_3 : Sl) (b3_4 : Sl) (K : Bool → World → Prop) (w : World) (h : F5 n0_1 m1_2 s2_3 b3_4 K w) :
    Calls Try.prog 5 #[.int .u64 n0_1, .int .i64 m1_2, .slice s2_3.a s2_3.n s2_3.c, .slice b3_4.a b3_4.n b3_4.c] w (fun e w1 => ∃ (r0 : Bool), e = .returned (.bool r0 : Value) ∧ K r0 w1) := by
  unfold F5 at h
  refine y_enter (n := 281) (args := [.int .u64 n0_1, .int .i64 m1_2, .slice s2_3.a s2_3.n s2_3.c, .slice b3_4.a b3_4.n b3_4.c]) Try.func5 rfl rfl rfl fun Q0 hQ0 => ?_
  refine y_seq fun K1 hK1 => ?_
  refine y_region ?_
  refine y_k (.bool false : Value) w rfl rfl rfl (by kernel_rfl) ?_
  refine y_nil ?_
  refine y_then (hK1 _ _ ?_)
  refine y_seq fun K2 hK2 => ?_
  refine y_region ?_
  refine y_call rfl rfl rfl (by kernel_rfl) (h.mono ?_)
  rintro _ w_6 ⟨t27_5, rfl, h⟩
  refine ⟨_, rfl, ?_⟩
  refine y_k (.bool t27_5 : Value) w_6 rfl rfl rfl (by kernel_rfl) ?_
  refine y_nil ?_
  refine y_then (hK2 _ _ ?_)
  refine y_seq fun K3 hK3 => ?_
  refine y_seq fun K4 hK4 => ?_
  refine y_region ?_
  refine y_k (.bool t27_5 : Value) w_6 rfl rfl rfl (by kernel_rfl) ?_
  refine y_k (.bool (!(t27_5)) : Value) w_6 rfl rfl rfl (by kernel_rfl) ?_
  refine y_k (.bool (!(t27_5)) : Value) w_6 rfl rfl rfl (by kernel_rfl) ?_
  refine y_fork (!(t27_5)) (fun hb5 => ?_) (fun hb5 => ?_)
  · replace h := h.1 ((not_true_of hb5))
    refine y_frame (upd_id (i := 30) (v := .bool true) rfl (congrArg Value.bool hb5)) ?_
    refine y_gno rfl rfl rfl rfl ?_
    refine y_gno rfl rfl rfl rfl ?_
    refine y_gno rfl rfl rfl rfl ?_
    refine y_k (.bool true : Value) w_6 rfl rfl rfl (by kernel_rfl) ?_
    refine y_k (.bool true : Value) w_6 rfl rfl rfl (by kernel_rfl) ?_
    refine y_gno rfl rfl rfl rfl ?_
    refine y_gno rfl rfl rfl rfl ?_
    refine y_gno rfl rfl rfl rfl ?_
    refine y_k (.bool true : Value) w_6 rfl rfl rfl (by kernel_rfl) ?_
    refine y_nil ?_
    refine y_then (hK4 _ _ ?_)
    refine y_cond_t rfl rfl ?_
    refine y_seq fun K6 hK6 => ?_
    refine y_region ?_
    refine y_k (.bool t27_5 : Value) w_6 rfl rfl rfl (by kernel_rfl) ?_
    refine y_k (.bool t27_5 : Value) w_6 rfl rfl rfl (by kernel_rfl) ?_
    refine y_nil ?_
    refine y_then (hK6 _ _ ?_)
    refine y_ret ?_
    repeat (first | refine e_then_r ?_ | refine e_block_r ?_)
    exact (hQ0 _ _ _ (res1 (v := (.bool t27_5 : Value)) rfl rfl rfl) ⟨_, rfl, h⟩).1
  · replace h := h.2 ((not_false_of hb5))
    refine y_frame (upd_id (i := 30) (v := .bool false) rfl (congrArg Value.bool hb5)) ?_
    refine y_gyes rfl rfl rfl ?_
    refine y_k (.slice b3_4.a b3_4.n b3_4.c : Value) w_6 rfl rfl rfl (by kernel_rfl) ?_
    refine y_gyes rfl rfl rfl ?_
    refine y_k (.int .i64 ((b3_4.n : Int)) : Value) w_6 rfl rfl rfl (by kernel_rfl) ?_
    refine y_gyes rfl rfl rfl ?_
    refine y_k (.bool (decide (((b3_4.n : Int)) > 536870912)) : Value) w_6 rfl rfl rfl (by kernel_rfl) ?_
    refine y_k (.bool (decide (((b3_4.n : Int)) > 536870912)) : Value) w_6 rfl rfl rfl (by kernel_rfl) ?_
    refine y_k (.bool (decide (((b3_4.n : Int)) > 536870912)) : Value) w_6 rfl rfl rfl (by kernel_rfl) ?_
    refine y_fork (decide (((b3_4.n : Int)) > 536870912)) (fun hb7 => ?_) (fun hb7 => ?_)
    · replace h := h.1 (of_decide_eq_true hb7)
      refine y_frame (upd_id (i := 35) (v := .bool true) rfl (congrArg Value.bool hb7)) ?_
      refine y_gno rfl rfl rfl rfl ?_
      refine y_gno rfl rfl rfl rfl ?_
      refine y_gno rfl rfl rfl rfl ?_
      refine y_k (.bool true : Value) w_6 rfl rfl rfl (by kernel_rfl) ?_
      refine y_nil ?_
      refine y_then (hK4 _ _ ?_)
      refine y_cond_t rfl rfl ?_
      refine y_seq fun K8 hK8 => ?_
      refine y_region ?_
      refine y_k (.bool t27_5 : Value) w_6 rfl rfl rfl (by kernel_rfl) ?_
      refine y_k (.bool t27_5 : Value) w_6 rfl rfl rfl (by kernel_rfl) ?_
      refine y_nil ?_
      refine y_then (hK8 _ _ ?_)
      refine y_ret ?_
      repeat (first | refine e_then_r ?_ | refine e_block_r ?_)
      exact (hQ0 _ _ _ (res1 (v := (.bool t27_5 : Value)) rfl rfl rfl) ⟨_, rfl, h⟩).1
    · replace h := h.2 (of_decide_eq_false hb7)
      refine y_frame (upd_id (i := 35) (v := .bool false) rfl (congrArg Value.bool hb7)) ?_
      refine y_gyes rfl rfl rfl ?_
      refine y_k (.slice s2_3.a s2_3.n s2_3.c : Value) w_6 rfl rfl rfl (by kernel_rfl) ?_
      refine y_gyes rfl rfl rfl ?_
      refine y_k (.int .i64 ((s2_3.n : Int)) : Value) w_6 rfl rfl rfl (by kernel_rfl) ?_
      refine y_gyes rfl rfl rfl ?_
      refine y_k (.bool (decide (((s2_3.n : Int)) > 536870912)) : Value) w_6 rfl rfl rfl (by kernel_rfl) ?_
      refine y_k (.bool (decide (((s2_3.n : Int)) > 536870912)) : Value) w_6 rfl rfl rfl (by kernel_rfl) ?_
      refine y_nil ?_
      refine y_then (hK4 _ _ ?_)
      refine y_cond (decide (((s2_3.n : Int)) > 536870912)) rfl rfl (fun hb158 => ?_) (fun hb158 => ?_)
      · replace h := h.1 (of_decide_eq_true hb158)
        refine y_seq fun K9 hK9 => ?_
        refine y_region ?_
        refine y_k (.bool t27_5 : Value) w_6 rfl rfl rfl (by kernel_rfl) ?_
        refine y_k (.bool t27_5 : Value) w_6 rfl rfl rfl (by kernel_rfl) ?_
        refine y_nil ?_
        refine y_then (hK9 _ _ ?_)
        refine y_ret ?_
        repeat (first | refine e_then_r ?_ | refine e_block_r ?_)
        exact (hQ0 _ _ _ (res1 (v := (.bool t27_5 : Value)) rfl rfl rfl) ⟨_, rfl, h⟩).1
      · replace h := h.2 (of_decide_eq_false hb158)
        refine y_skip ?_
        refine y_then (hK3 _ _ ?_)
        refine y_seq fun K10 hK10 => ?_
        refine y_region ?_
        refine y_k (.int .u64 n0_1 : Value) w_6 rfl rfl rfl (by kernel_rfl) ?_
        refine y_call rfl rfl rfl (by kernel_rfl) (h.mono ?_)
        rintro _ w_8 ⟨t42_7, rfl, h⟩
        refine ⟨_, rfl, ?_⟩
        refine y_k (.int .i64 m1_2 : Value) w_8 rfl rfl rfl (by kernel_rfl) ?_
        refine y_call rfl rfl rfl (by kernel_rfl) (h.mono ?_)
        rintro _ w_10 ⟨t44_9, rfl, h⟩
        refine ⟨_, rfl, ?_⟩
        refine y_k (.slice s2_3.a s2_3.n s2_3.c : Value) w_10 rfl rfl rfl (by kernel_rfl) ?_
        refine y_call rfl rfl rfl (by kernel_rfl) (h.mono ?_)
        rintro _ w_12 ⟨t46_11, rfl, h⟩
        refine ⟨_, rfl, ?_⟩
        refine y_k (.slice (some ⟨w_12.heap.size, 0, none⟩) 3 3 : Value) (w_12.alloc (.cells #[.slice t42_7.a t42_7.n t42_7.c, .slice t44_9.a t44_9.n t44_9.c, .slice t46_11.a t46_11.n t46_11.c] 22)) rfl rfl rfl (by kernel_rfl) ?_
        replace h := h _ rfl
        generalize w_12.alloc (.cells #[.slice t42_7.a t42_7.n t42_7.c, .slice t44_9.a t44_9.n t44_9.c, .slice t46_11.a t46_11.n t46_11.c] 22) = w_13 at h ⊢
        refine y_k (.slice (some ⟨w_12.heap.size, 0, none⟩) 3 3 : Value) w_13 rfl rfl rfl (by kernel_rfl) ?_
        refine y_nil ?_
        refine y_then (hK10 _ _ ?_)
        refine y_seq fun K11 hK11 => ?_
        refine y_region ?_
        refine y_k (.int .u64 n0_1 : Value) w_13 rfl rfl rfl (by kernel_rfl) ?_
        refine y_call rfl rfl rfl (by kernel_rfl) (h.mono ?_)
        rintro _ w_15 ⟨t50_14, rfl, h⟩
        refine ⟨_, rfl, ?_⟩
        refine y_k (.slice b3_4.a b3_4.n b3_4.c : Value) w_15 rfl rfl rfl (by kernel_rfl) ?_
        obtain ⟨t52_16, w_17, hx12, h⟩ := h
        refine y_v (s := Builtin.append_ #[22, 22] 22 #[.slice t50_14.a t50_14.n t50_14.c, .slice b3_4.a b3_4.n b3_4.c]) rfl rfl rfl (by kernel_rfl) hx12 ?_
        refine y_call rfl rfl rfl (by kernel_rfl) (h.mono ?_)
        rintro _ w_20 ⟨t53_18, t53_19, rfl, h⟩
        refine ⟨_, rfl, ?_⟩
        refine y_k (.tuple #[.int .u64 t53_18, .int .i64 t53_19] : Value) w_20 rfl rfl rfl (by kernel_rfl) ?_
        refine y_k (.int .u64 t53_18 : Value) w_20 rfl rfl rfl (by kernel_rfl) ?_
        refine y_k (.int .i64 t53_19 : Value) w_20 rfl rfl rfl (by kernel_rfl) ?_
        refine y_k (.int .u64 t53_18 : Value) w_20 rfl rfl rfl (by kernel_rfl) ?_
        refine y_k (.int .i64 t53_19 : Value) w_20 rfl rfl rfl (by kernel_rfl) ?_
        refine y_nil ?_
        refine y_then (hK11 _ _ ?_)
        refine y_seq fun K13 hK13 => ?_
        refine y_region ?_
        refine y_k (.int .i64 m1_2 : Value) w_20 rfl rfl rfl (by kernel_rfl) ?_
        refine y_call rfl rfl rfl (by kernel_rfl) (h.mono ?_)
        rintro _ w_22 ⟨t58_21, rfl, h⟩
        refine ⟨_, rfl, ?_⟩
        refine y_k (.slice b3_4.a b3_4.n b3_4.c : Value) w_22 rfl rfl rfl (by kernel_rfl) ?_
        obtain ⟨t60_23, w_24, hx14, h⟩ := h
        refine y_v (s := Builtin.append_ #[22, 22] 22 #[.slice t58_21.a t58_21.n t58_21.c, .slice b3_4.a b3_4.n b3_4.c]) rfl rfl rfl (by kernel_rfl) hx14 ?_
        refine y_call rfl rfl rfl (by kernel_rfl) (h.mono ?_)
        rintro _ w_27 ⟨t61_25, t61_26, rfl, h⟩
        refine ⟨_, rfl, ?_⟩
        refine y_k (.tuple #[.int .i64 t61_25, .int .i64 t61_26] : Value) w_27 rfl rfl rfl (by kernel_rfl) ?_
        refine y_k (.int .i64 t61_25 : Value) w_27 rfl rfl rfl (by kernel_rfl) ?_
        refine y_k (.int .i64 t61_26 : Value) w_27 rfl rfl rfl (by kernel_rfl) ?_
        refine y_k (.int .i64 t61_25 : Value) w_27 rfl rfl rfl (by kernel_rfl) ?_
        refine y_k (.int .i64 t61_26 : Value) w_27 rfl rfl rfl (by kernel_rfl) ?_
        refine y_nil ?_
        refine y_then (hK13 _ _ ?_)
        refine y_seq fun K15 hK15 => ?_
        refine y_region ?_
        refine y_k (.slice s2_3.a s2_3.n s2_3.c : Value) w_27 rfl rfl rfl (by kernel_rfl) ?_
        refine y_call rfl rfl rfl (by kernel_rfl) (h.mono ?_)
        rintro _ w_29 ⟨t66_28, rfl, h⟩
        refine ⟨_, rfl, ?_⟩
        refine y_k (.slice b3_4.a b3_4.n b3_4.c : Value) w_29 rfl rfl rfl (by kernel_rfl) ?_
        obtain ⟨t68_30, w_31, hx16, h⟩ := h
        refine y_v (s := Builtin.append_ #[22, 22] 22 #[.slice t66_28.a t66_28.n t66_28.c, .slice b3_4.a b3_4.n b3_4.c]) rfl rfl rfl (by kernel_rfl) hx16 ?_
        refine y_k (.slice s2_3.a s2_3.n s2_3.c : Value) w_31 rfl rfl rfl (by kernel_rfl) ?_
        refine y_k (.int .i64 ((s2_3.n : Int)) : Value) w_31 rfl rfl rfl (by kernel_rfl) ?_
        refine y_call rfl rfl rfl (by kernel_rfl) (h.mono ?_)
        rintro _ w_34 ⟨t71_32, t71_33, rfl, h⟩
        refine ⟨_, rfl, ?_⟩
        refine y_k (.tuple #[.slice t71_32.a t71_32.n t71_32.c, .int .i64 t71_33] : Value) w_34 rfl rfl rfl (by kernel_rfl) ?_
        refine y_k (.slice t71_32.a t71_32.n t71_32.c : Value) w_34 rfl rfl rfl (by kernel_rfl) ?_
        refine y_k (.int .i64 t71_33 : Value) w_34 rfl rfl rfl (by kernel_rfl) ?_
        refine y_k (.slice t71_32.a t71_32.n t71_32.c : Value) w_34 rfl rfl rfl (by kernel_rfl) ?_
        refine y_k (.int .i64 t71_33 : Value) w_34 rfl rfl rfl (by kernel_rfl) ?_
        refine y_nil ?_
        refine y_then (hK15 _ _ ?_)
        refine y_seq fun K17 hK17 => ?_
        refine y_seq fun K18 hK18 => ?_
        refine y_region ?_
        refine y_k (.bool t27_5 : Value) w_34 rfl rfl rfl (by kernel_rfl) ?_
        refine y_k (.bool (!(t27_5)) : Value) w_34 rfl rfl rfl (by kernel_rfl) ?_
        refine y_k (.bool (!(t27_5)) : Value) w_34 rfl rfl rfl (by kernel_rfl) ?_
        refine y_fork (!(t27_5)) (fun hb19 => ?_) (fun hb19 => ?_)
        · replace h := h.1 ((not_true_of hb19))
          refine y_frame (upd_id (i := 76) (v := .bool true) rfl (congrArg Value.bool hb19)) ?_
          refine y_gno rfl rfl rfl rfl ?_
          refine y_gno rfl rfl rfl rfl ?_
          refine y_gno rfl rfl rfl rfl ?_
          refine y_k (.bool true : Value) w_34 rfl rfl rfl (by kernel_rfl) ?_
          refine y_k (.bool true : Value) w_34 rfl rfl rfl (by kernel_rfl) ?_
          refine y_gno rfl rfl rfl rfl ?_
          refine y_gno rfl rfl rfl rfl ?_
          refine y_gno rfl rfl rfl rfl ?_
          refine y_k (.bool true : Value) w_34 rfl rfl rfl (by kernel_rfl) ?_
          refine y_k (.bool true : Value) w_34 rfl rfl rfl (by kernel_rfl) ?_
          refine y_gno rfl rfl rfl rfl ?_
          refine y_gno rfl rfl rfl rfl ?_
          refine y_gno rfl rfl rfl rfl ?_
          refine y_gno rfl rfl rfl rfl ?_
          refine y_gno rfl rfl rfl rfl ?_
          refine y_k (.bool true : Value) w_34 rfl rfl rfl (by kernel_rfl) ?_
          refine y_k (.bool true : Value) w_34 rfl rfl rfl (by kernel_rfl) ?_
          refine y_gno rfl rfl rfl rfl ?_
          refine y_gno rfl rfl rfl rfl ?_
          refine y_gno rfl rfl rfl rfl ?_
          refine y_gno rfl rfl rfl rfl ?_
          refine y_gno rfl rfl rfl rfl ?_
          refine y_gno rfl rfl rfl rfl ?_
          refine y_k (.bool true : Value) w_34 rfl rfl rfl (by kernel_rfl) ?_
          refine y_k (.bool true : Value) w_34 rfl rfl rfl (by kernel_rfl) ?_
          refine y_gno rfl rfl rfl rfl ?_
          refine y_gno rfl rfl rfl rfl ?_
          refine y_gno rfl rfl rfl rfl ?_
          refine y_gno rfl rfl rfl rfl ?_
          refine y_gno rfl rfl rfl rfl ?_
          refine y_gno rfl rfl rfl rfl ?_
          refine y_k (.bool true : Value) w_34 rfl rfl rfl (by kernel_rfl) ?_
          refine y_k (.bool true : Value) w_34 rfl rfl rfl (by kernel_rfl) ?_
          refine y_gno rfl rfl rfl rfl ?_
          refine y_gno rfl rfl rfl rfl ?_
          refine y_gno rfl rfl rfl rfl ?_
          refine y_gno rfl rfl rfl rfl ?_
          refine y_gno rfl rfl rfl rfl ?_
          refine y_gno rfl rfl rfl rfl ?_
          refine y_k (.bool true : Value) w_34 rfl rfl rfl (by kernel_rfl) ?_
          refine y_nil ?_
          refine y_then (hK18 _ _ ?_)
          refine y_cond_t rfl rfl ?_
          refine y_seq fun K20 hK20 => ?_
          refine y_region ?_
          refine y_k (.bool false : Value) w_34 rfl rfl rfl (by kernel_rfl) ?_
          refine y_nil ?_
          refine y_then (hK20 _ _ ?_)
          refine y_ret ?_
          repeat (first | refine e_then_r ?_ | refine e_block_r ?_)
          exact (hQ0 _ _ _ (res1 (v := (.bool false : Value)) rfl rfl rfl) ⟨_, rfl, h⟩).1
        · replace h := h.2 ((not_false_of hb19))
          refine y_frame (upd_id (i := 76) (v := .bool false) rfl (congrArg Value.bool hb19)) ?_
          refine y_gyes rfl rfl rfl ?_
          refine y_k (.int .u64 t53_18 : Value) w_34 rfl rfl rfl (by kernel_rfl) ?_
          refine y_gyes rfl rfl rfl ?_
          refine y_k (.int .u64 n0_1 : Value) w_34 rfl rfl rfl (by kernel_rfl) ?_
          refine y_gyes rfl rfl rfl ?_
          refine y_k (.bool ((t53_18 != n0_1)) : Value) w_34 rfl rfl rfl (by kernel_rfl) ?_
          refine y_k (.bool ((t53_18 != n0_1)) : Value) w_34 rfl rfl rfl (by kernel_rfl) ?_
          refine y_k (.bool ((t53_18 != n0_1)) : Value) w_34 rfl rfl rfl (by kernel_rfl) ?_
          refine y_fork ((t53_18 != n0_1)) (fun hb21 => ?_) (fun hb21 => ?_)
          · replace h := h.1 (bne_iff_ne.mp hb21)
            refine y_frame (upd_id (i := 81) (v := .bool true) rfl (congrArg Value.bool hb21)) ?_
            refine y_gno rfl rfl rfl rfl ?_
            refine y_gno rfl rfl rfl rfl ?_
            refine y_gno rfl rfl rfl rfl ?_
            refine y_k (.bool true : Value) w_34 rfl rfl rfl (by kernel_rfl) ?_
            refine y_k (.bool true : Value) w_34 rfl rfl rfl (by kernel_rfl) ?_
            refine y_gno rfl rfl rfl rfl ?_
            refine y_gno rfl rfl rfl rfl ?_
            refine y_gno rfl rfl rfl rfl ?_
            refine y_gno rfl rfl rfl rfl ?_
            refine y_gno rfl rfl rfl rfl ?_
            refine y_k (.bool true : Value) w_34 rfl rfl rfl (by kernel_rfl) ?_
            refine y_k (.bool true : Value) w_34 rfl rfl rfl (by kernel_rfl) ?_
            refine y_gno rfl rfl rfl rfl ?_
            refine y_gno rfl rfl rfl rfl ?_
            refine y_gno rfl rfl rfl rfl ?_
            refine y_gno rfl rfl rfl rfl ?_
            refine y_gno rfl rfl rfl rfl ?_
            refine y_gno rfl rfl rfl rfl ?_
            refine y_k (.bool true : Value) w_34 rfl rfl rfl (by kernel_rfl) ?_
            refine y_k (.bool true : Value) w_34 rfl rfl rfl (by kernel_rfl) ?_
            refine y_gno rfl rfl rfl rfl ?_
            refine y_gno rfl rfl rfl rfl ?_
            refine y_gno rfl rfl rfl rfl ?_
            refine y_gno rfl rfl rfl rfl ?_
            refine y_gno rfl rfl rfl rfl ?_
            refine y_gno rfl rfl rfl rfl ?_
            refine y_k (.bool true : Value) w_34 rfl rfl rfl (by kernel_rfl) ?_
            refine y_k (.bool true : Value) w_34 rfl rfl rfl (by kernel_rfl) ?_
            refine y_gno rfl rfl rfl rfl ?_
            refine y_gno rfl rfl rfl rfl ?_
            refine y_gno rfl rfl rfl rfl ?_
            refine y_gno rfl rfl rfl rfl ?_
            refine y_gno rfl rfl rfl rfl ?_
            refine y_gno rfl rfl rfl rfl ?_
            refine y_k (.bool true : Value) w_34 rfl rfl rfl (by kernel_rfl) ?_
            refine y_nil ?_
            refine y_then (hK18 _ _ ?_)
            refine y_cond_t rfl rfl ?_
            refine y_seq fun K22 hK22 => ?_
            refine y_region ?_
            refine y_k (.bool false : Value) w_34 rfl rfl rfl (by kernel_rfl) ?_
            refine y_nil ?_
            refine y_then (hK22 _ _ ?_)
            refine y_ret ?_
            repeat (first | refine e_then_r ?_ | refine e_block_r ?_)
            exact (hQ0 _ _ _ (res1 (v := (.bool false : Value)) rfl rfl rfl) ⟨_, rfl, h⟩).1
          · replace h := h.2 (bne_eq_false_iff_eq.mp hb21)
            refine y_frame (upd_id (i := 81) (v := .bool false) rfl (congrArg Value.bool hb21)) ?_
            refine y_gyes rfl rfl rfl ?_
            refine y_k (.int .i64 t61_25 : Value) w_34 rfl rfl rfl (by kernel_rfl) ?_
            refine y_gyes rfl rfl rfl ?_
            refine y_k (.int .i64 m1_2 : Value) w_34 rfl rfl rfl (by kernel_rfl) ?_
            refine y_gyes rfl rfl rfl ?_
            refine y_k (.bool ((t61_25 != m1_2)) : Value) w_34 rfl rfl rfl (by kernel_rfl) ?_
            refine y_k (.bool ((t61_25 != m1_2)) : Value) w_34 rfl rfl rfl (by kernel_rfl) ?_
            refine y_k (.bool ((t61_25 != m1_2)) : Value) w_34 rfl rfl rfl (by kernel_rfl) ?_
            refine y_fork ((t61_25 != m1_2)) (fun hb23 => ?_) (fun hb23 => ?_)
            · replace h := h.1 (bne_iff_ne.mp hb23)
              refine y_frame (upd_id (i := 86) (v := .bool true) rfl (congrArg Value.bool hb23)) ?_
              refine y_gno rfl rfl rfl rfl ?_
              refine y_gno rfl rfl rfl rfl ?_
              refine y_gno rfl rfl rfl rfl ?_
              refine y_gno rfl rfl rfl rfl ?_
              refine y_gno rfl rfl rfl rfl ?_
              refine y_k (.bool true : Value) w_34 rfl rfl rfl (by kernel_rfl) ?_
              refine y_k (.bool true : Value) w_34 rfl rfl rfl (by kernel_rfl) ?_
              refine y_gno rfl rfl rfl rfl ?_
              refine y_gno rfl rfl rfl rfl ?_
              refine y_gno rfl rfl rfl rfl ?_
              refine y_gno rfl rfl rfl rfl ?_
              refine y_gno rfl rfl rfl rfl ?_
              refine y_gno rfl rfl rfl rfl ?_
              refine y_k (.bool true : Value) w_34 rfl rfl rfl (by kernel_rfl) ?_
              refine y_k (.bool true : Value) w_34 rfl rfl rfl (by kernel_rfl) ?_
              refine y_gno rfl rfl rfl rfl ?_
              refine y_gno rfl rfl rfl rfl ?_
              refine y_gno rfl rfl rfl rfl ?_
              refine y_gno rfl rfl rfl rfl ?_
              refine y_gno rfl rfl rfl rfl ?_
              refine y_gno rfl rfl rfl rfl ?_
              refine y_k (.bool true : Value) w_34 rfl rfl rfl (by kernel_rfl) ?_
              refine y_k (.bool true : Value) w_34 rfl rfl rfl (by kernel_rfl) ?_
              refine y_gno rfl rfl rfl rfl ?_
              refine y_gno rfl rfl rfl rfl ?_
              refine y_gno rfl rfl rfl rfl ?_
              refine y_gno rfl rfl rfl rfl ?_
              refine y_gno rfl rfl rfl rfl ?_
              refine y_gno rfl rfl rfl rfl ?_
              refine y_k (.bool true : Value) w_34 rfl rfl rfl (by kernel_rfl) ?_
              refine y_nil ?_
              refine y_then (hK18 _ _ ?_)
              refine y_cond_t rfl rfl ?_
              refine y_seq fun K24 hK24 => ?_
              refine y_region ?_
              refine y_k (.bool false : Value) w_34 rfl rfl rfl (by kernel_rfl) ?_
              refine y_nil ?_
              refine y_then (hK24 _ _ ?_)
              refine y_ret ?_
              repeat (first | refine e_then_r ?_ | refine e_block_r ?_)
              exact (hQ0 _ _ _ (res1 (v := (.bool false : Value)) rfl rfl rfl) ⟨_, rfl, h⟩).1
            · replace h := h.2 (bne_eq_false_iff_eq.mp hb23)
              refine y_frame (upd_id (i := 86) (v := .bool false) rfl (congrArg Value.bool hb23)) ?_
              refine y_gyes rfl rfl rfl ?_
              refine y_k (.slice t71_32.a t71_32.n t71_32.c : Value) w_34 rfl rfl rfl (by kernel_rfl) ?_
              refine y_gyes rfl rfl rfl ?_
              obtain ⟨t88_35, hx25, h⟩ := h
              refine y_v (s := convert 22 9 (.slice t71_32.a t71_32.n t71_32.c : Value)) rfl rfl rfl (by kernel_rfl) (hx25) ?_
              refine y_gyes rfl rfl rfl ?_
              refine y_k (.slice s2_3.a s2_3.n s2_3.c : Value) w_34 rfl rfl rfl (by kernel_rfl) ?_
              refine y_gyes rfl rfl rfl ?_
              obtain ⟨t90_36, hx26, h⟩ := h
              refine y_v (s := convert 22 9 (.slice s2_3.a s2_3.n s2_3.c : Value)) rfl rfl rfl (by kernel_rfl) (hx26) ?_
              refine y_gyes rfl rfl rfl ?_
              refine y_k (.bool (!((t88_35.toList == t90_36.toList))) : Value) w_34 rfl rfl rfl (by kernel_rfl) ?_
              refine y_k (.bool (!((t88_35.toList == t90_36.toList))) : Value) w_34 rfl rfl rfl (by kernel_rfl) ?_
              refine y_k (.bool (!((t88_35.toList == t90_36.toList))) : Value) w_34 rfl rfl rfl (by kernel_rfl) ?_
              refine y_fork (!((t88_35.toList == t90_36.toList))) (fun hb27 => ?_) (fun hb27 => ?_)
              · replace h := h.1 (beq_eq_false_iff_ne.mp (not_true_of hb27))
                refine y_frame (upd_id (i := 93) (v := .bool true) rfl (congrArg Value.bool hb27)) ?_
                refine y_gno rfl rfl rfl rfl ?_
                refine y_gno rfl rfl rfl rfl ?_
                refine y_gno rfl rfl rfl rfl ?_
                refine y_gno rfl rfl rfl rfl ?_
                refine y_gno rfl rfl rfl rfl ?_
                refine y_gno rfl rfl rfl rfl ?_
                refine y_k (.bool true : Value) w_34 rfl rfl rfl (by kernel_rfl) ?_
                refine y_k (.bool true : Value) w_34 rfl rfl rfl (by kernel_rfl) ?_
                refine y_gno rfl rfl rfl rfl ?_
                refine y_gno rfl rfl rfl rfl ?_
                refine y_gno rfl rfl rfl rfl ?_
                refine y_gno rfl rfl rfl rfl ?_
                refine y_gno rfl rfl rfl rfl ?_
                refine y_gno rfl rfl rfl rfl ?_
                refine y_k (.bool true : Value) w_34 rfl rfl rfl (by kernel_rfl) ?_
                refine y_k (.bool true : Value) w_34 rfl rfl rfl (by kernel_rfl) ?_
                refine y_gno rfl rfl rfl rfl ?_
                refine y_gno rfl rfl rfl rfl ?_
                refine y_gno rfl rfl rfl rfl ?_
                refine y_gno rfl rfl rfl rfl ?_
                refine y_gno rfl rfl rfl rfl ?_
                refine y_gno rfl rfl rfl rfl ?_
                refine y_k (.bool true : Value) w_34 rfl rfl rfl (by kernel_rfl) ?_
                refine y_nil ?_
                refine y_then (hK18 _ _ ?_)
                refine y_cond_t rfl rfl ?_
                refine y_seq fun K28 hK28 => ?_
                refine y_region ?_
                refine y_k (.bool false : Value) w_34 rfl rfl rfl (by kernel_rfl) ?_
                refine y_nil ?_
                refine y_then (hK28 _ _ ?_)
                refine y_ret ?_
                repeat (first | refine e_then_r ?_ | refine e_block_r ?_)
                exact (hQ0 _ _ _ (res1 (v := (.bool false : Value)) rfl rfl rfl) ⟨_, rfl, h⟩).1
              · replace h := h.2 (eq_of_beq (not_false_of hb27))
                refine y_frame (upd_id (i := 93) (v := .bool false) rfl (congrArg Value.bool hb27)) ?_
                refine y_gyes rfl rfl rfl ?_
                refine y_k (.int .i64 t53_19 : Value) w_34 rfl rfl rfl (by kernel_rfl) ?_
                refine y_gyes rfl rfl rfl ?_
                refine y_k (.slice (some ⟨w_12.heap.size, 0, none⟩) 3 3 : Value) w_34 rfl rfl rfl (by kernel_rfl) ?_
                refine y_gyes rfl rfl rfl ?_
                obtain ⟨hx29a, hx29b, a_37, hx29, h⟩ := h
                refine y_v (v := (.pointer (some (a_37.add (Int.toNat 0))) : Value)) (s := Instr.indexAt 26 (.slice (some ⟨w_12.heap.size, 0, none⟩) 3 3 : Value) (.int .i64 0 : Value)) rfl rfl rfl (by kernel_rfl) (run_ixs1 (el := 22) (by kernel_rfl) (by kernel_rfl) hx29 hx29a hx29b) ?_
                refine y_gyes rfl rfl rfl ?_
                obtain ⟨t97_38, hx30, h⟩ := h
                refine y_v (s := Instr.loadAt 22 (.pointer (some (a_37.add (Int.toNat 0))))) rfl rfl rfl (by kernel_rfl) (rn_load (by kernel_rfl) hx30) ?_
                refine y_gyes rfl rfl rfl ?_
                refine y_k (.int .i64 ((t97_38.n : Int)) : Value) w_34 rfl rfl rfl (by kernel_rfl) ?_
                refine y_gyes rfl rfl rfl ?_
                refine y_k (.bool ((t53_19 != (((t97_38.n : Int))))) : Value) w_34 rfl rfl rfl (by kernel_rfl) ?_
                refine y_k (.bool ((t53_19 != (((t97_38.n : Int))))) : Value) w_34 rfl rfl rfl (by kernel_rfl) ?_
                refine y_k (.bool ((t53_19 != (((t97_38.n : Int))))) : Value) w_34 rfl rfl rfl (by kernel_rfl) ?_
                refine y_fork ((t53_19 != (((t97_38.n : Int))))) (fun hb31 => ?_) (fun hb31 => ?_)
                · replace h := h.1 (bne_iff_ne.mp hb31)
                  refine y_frame (upd_id (i := 101) (v := .bool true) rfl (congrArg Value.bool hb31)) ?_
                  refine y_gno rfl rfl rfl rfl ?_
                  refine y_gno rfl rfl rfl rfl ?_
                  refine y_gno rfl rfl rfl rfl ?_
                  refine y_gno rfl rfl rfl rfl ?_
                  refine y_gno rfl rfl rfl rfl ?_
                  refine y_gno rfl rfl rfl rfl ?_
                  refine y_k (.bool true : Value) w_34 rfl rfl rfl (by kernel_rfl) ?_
                  refine y_k (.bool true : Value) w_34 rfl rfl rfl (by kernel_rfl) ?_
                  refine y_gno rfl rfl rfl rfl ?_
                  refine y_gno rfl rfl rfl rfl ?_
                  refine y_gno rfl rfl rfl rfl ?_
                  refine y_gno rfl rfl rfl rfl ?_
                  refine y_gno rfl rfl rfl rfl ?_
                  refine y_gno rfl rfl rfl rfl ?_
                  refine y_k (.bool true : Value) w_34 rfl rfl rfl (by kernel_rfl) ?_
                  refine y_nil ?_
                  refine y_then (hK18 _ _ ?_)
                  refine y_cond_t rfl rfl ?_
                  refine y_seq fun K32 hK32 => ?_
                  refine y_region ?_
                  refine y_k (.bool false : Value) w_34 rfl rfl rfl (by kernel_rfl) ?_
                  refine y_nil ?_
                  refine y_then (hK32 _ _ ?_)
                  refine y_ret ?_
                  repeat (first | refine e_then_r ?_ | refine e_block_r ?_)
                  exact (hQ0 _ _ _ (res1 (v := (.bool false : Value)) rfl rfl rfl) ⟨_, rfl, h⟩).1
                · replace h := h.2 (bne_eq_false_iff_eq.mp hb31)
                  refine y_frame (upd_id (i := 101) (v := .bool false) rfl (congrArg Value.bool hb31)) ?_
                  refine y_gyes rfl rfl rfl ?_
                  refine y_k (.int .i64 t61_26 : Value) w_34 rfl rfl rfl (by kernel_rfl) ?_
                  refine y_gyes rfl rfl rfl ?_
                  refine y_k (.slice (some ⟨w_12.heap.size, 0, none⟩) 3 3 : Value) w_34 rfl rfl rfl (by kernel_rfl) ?_
                  refine y_gyes rfl rfl rfl ?_
                  obtain ⟨hx33a, hx33b, a_39, hx33, h⟩ := h
                  refine y_v (v := (.pointer (some (a_39.add (Int.toNat 1))) : Value)) (s := Instr.indexAt 26 (.slice (some ⟨w_12.heap.size, 0, none⟩) 3 3 : Value) (.int .i64 1 : Value)) rfl rfl rfl (by kernel_rfl) (run_ixs1 (el := 22) (by kernel_rfl) (by kernel_rfl) hx33 hx33a hx33b) ?_
                  refine y_gyes rfl rfl rfl ?_
                  obtain ⟨t105_40, hx34, h⟩ := h
                  refine y_v (s := Instr.loadAt 22 (.pointer (some (a_39.add (Int.toNat 1))))) rfl rfl rfl (by kernel_rfl) (rn_load (by kernel_rfl) hx34) ?_
                  refine y_gyes rfl rfl rfl ?_
                  refine y_k (.int .i64 ((t105_40.n : Int)) : Value) w_34 rfl rfl rfl (by kernel_rfl) ?_
                  refine y_gyes rfl rfl rfl ?_
                  refine y_k (.bool ((t61_26 != (((t105_40.n : Int))))) : Value) w_34 rfl rfl rfl (by kernel_rfl) ?_
                  refine y_k (.bool ((t61_26 != (((t105_40.n : Int))))) : Value) w_34 rfl rfl rfl (by kernel_rfl) ?_
                  refine y_k (.bool ((t61_26 != (((t105_40.n : Int))))) : Value) w_34 rfl rfl rfl (by kernel_rfl) ?_
                  refine y_fork ((t61_26 != (((t105_40.n : Int))))) (fun hb35 => ?_) (fun hb35 => ?_)
                  · replace h := h.1 (bne_iff_ne.mp hb35)
                    refine y_frame (upd_id (i := 109) (v := .bool true) rfl (congrArg Value.bool hb35)) ?_
                    refine y_gno rfl rfl rfl rfl ?_
                    refine y_gno rfl rfl rfl rfl ?_
                    refine y_gno rfl rfl rfl rfl ?_
                    refine y_gno rfl rfl rfl rfl ?_
                    refine y_gno rfl rfl rfl rfl ?_
                    refine y_gno rfl rfl rfl rfl ?_
                    refine y_k (.bool true : Value) w_34 rfl rfl rfl (by kernel_rfl) ?_
                    refine y_nil ?_
                    refine y_then (hK18 _ _ ?_)
                    refine y_cond_t rfl rfl ?_
                    refine y_seq fun K36 hK36 => ?_
                    refine y_region ?_
                    refine y_k (.bool false : Value) w_34 rfl rfl rfl (by kernel_rfl) ?_
                    refine y_nil ?_
                    refine y_then (hK36 _ _ ?_)
                    refine y_ret ?_
                    repeat (first | refine e_then_r ?_ | refine e_block_r ?_)
                    exact (hQ0 _ _ _ (res1 (v := (.bool false : Value)) rfl rfl rfl) ⟨_, rfl, h⟩).1
                  · replace h := h.2 (bne_eq_false_iff_eq.mp hb35)
                    refine y_frame (upd_id (i := 109) (v := .bool false) rfl (congrArg Value.bool hb35)) ?_
                    refine y_gyes rfl rfl rfl ?_
                    refine y_k (.int .i64 t71_33 : Value) w_34 rfl rfl rfl (by kernel_rfl) ?_
                    refine y_gyes rfl rfl rfl ?_
                    refine y_k (.slice (some ⟨w_12.heap.size, 0, none⟩) 3 3 : Value) w_34 rfl rfl rfl (by kernel_rfl) ?_
                    refine y_gyes rfl rfl rfl ?_
                    obtain ⟨hx37a, hx37b, a_41, hx37, h⟩ := h
                    refine y_v (v := (.pointer (some (a_41.add (Int.toNat 2))) : Value)) (s := Instr.indexAt 26 (.slice (some ⟨w_12.heap.size, 0, none⟩) 3 3 : Value) (.int .i64 2 : Value)) rfl rfl rfl (by kernel_rfl) (run_ixs1 (el := 22) (by kernel_rfl) (by kernel_rfl) hx37 hx37a hx37b) ?_
                    refine y_gyes rfl rfl rfl ?_
                    obtain ⟨t113_42, hx38, h⟩ := h
                    refine y_v (s := Instr.loadAt 22 (.pointer (some (a_41.add (Int.toNat 2))))) rfl rfl rfl (by kernel_rfl) (rn_load (by kernel_rfl) hx38) ?_
                    refine y_gyes rfl rfl rfl ?_
                    refine y_k (.int .i64 ((t113_42.n : Int)) : Value) w_34 rfl rfl rfl (by kernel_rfl) ?_
                    refine y_gyes rfl rfl rfl ?_
                    refine y_k (.bool ((t71_33 != (((t113_42.n : Int))))) : Value) w_34 rfl rfl rfl (by kernel_rfl) ?_
                    refine y_k (.bool ((t71_33 != (((t113_42.n : Int))))) : Value) w_34 rfl rfl rfl (by kernel_rfl) ?_
                    refine y_nil ?_
                    refine y_then (hK18 _ _ ?_)
                    refine y_cond ((t71_33 != (((t113_42.n : Int))))) rfl rfl (fun hb157 => ?_) (fun hb157 => ?_)
                    · replace h := h.1 (bne_iff_ne.mp hb157)
                      refine y_seq fun K39 hK39 => ?_
                      refine y_region ?_
                      refine y_k (.bool false : Value) w_34 rfl rfl rfl (by kernel_rfl) ?_
                      refine y_nil ?_
                      refine y_then (hK39 _ _ ?_)
                      refine y_ret ?_
                      repeat (first | refine e_then_r ?_ | refine e_block_r ?_)
                      exact (hQ0 _ _ _ (res1 (v := (.bool false : Value)) rfl rfl rfl) ⟨_, rfl, h⟩).1
                    · replace h := h.2 (bne_eq_false_iff_eq.mp hb157)
                      refine y_skip ?_
                      refine y_then (hK17 _ _ ?_)
                      refine y_seq fun K40 hK40 => ?_
                      refine y_region ?_
                      refine y_k (.slice (some ⟨w_12.heap.size, 0, none⟩) 3 3 : Value) w_34 rfl rfl rfl (by kernel_rfl) ?_
                      obtain ⟨hx41a, hx41b, a_43, hx41, h⟩ := h
                      refine y_v (v := (.pointer (some (a_43.add (Int.toNat 2))) : Value)) (s := Instr.indexAt 26 (.slice (some ⟨w_12.heap.size, 0, none⟩) 3 3 : Value) (.int .i64 2 : Value)) rfl rfl rfl (by kernel_rfl) (run_ixs1 (el := 22) (by kernel_rfl) (by kernel_rfl) hx41 hx41a hx41b) ?_
                      obtain ⟨t120_44, hx42, h⟩ := h
                      refine y_v (s := Instr.loadAt 22 (.pointer (some (a_43.add (Int.toNat 2))))) rfl rfl rfl (by kernel_rfl) (rn_load (by kernel_rfl) hx42) ?_
                      refine y_k (.slice s2_3.a s2_3.n s2_3.c : Value) w_34 rfl rfl rfl (by kernel_rfl) ?_
                      refine y_k (.int .i64 ((s2_3.n : Int)) : Value) w_34 rfl rfl rfl (by kernel_rfl) ?_
                      refine y_k (.int .i64 (IntKind.i64.wrap (((s2_3.n : Int)) - 1)) : Value) w_34 rfl rfl rfl (by kernel_rfl) ?_
                      refine y_call rfl rfl rfl (by kernel_rfl) (h.mono ?_)
                      rintro _ w_47 ⟨t124_45, t124_46, rfl, h⟩
                      refine ⟨_, rfl, ?_⟩
                      refine y_k (.tuple #[.slice t124_45.a t124_45.n t124_45.c, .int .i64 t124_46] : Value) w_47 rfl rfl rfl (by kernel_rfl) ?_
                      refine y_k (.slice t124_45.a t124_45.n t124_45.c : Value) w_47 rfl rfl rfl (by kernel_rfl) ?_
                      refine y_k (.int .i64 t124_46 : Value) w_47 rfl rfl rfl (by kernel_rfl) ?_
                      refine y_k (.slice t124_45.a t124_45.n t124_45.c : Value) w_47 rfl rfl rfl (by kernel_rfl) ?_
                      refine y_k (.int .i64 t124_46 : Value) w_47 rfl rfl rfl (by kernel_rfl) ?_
                      refine y_nil ?_
                      refine y_then (hK40 _ _ ?_)
                      refine y_seq fun K43 hK43 => ?_
                      refine y_seq fun K44 hK44 => ?_
                      refine y_region ?_
                      refine y_k (.int .i64 t124_46 : Value) w_47 rfl rfl rfl (by kernel_rfl) ?_
                      refine y_k (.bool ((t124_46 != 0)) : Value) w_47 rfl rfl rfl (by kernel_rfl) ?_
                      refine y_nil ?_
                      refine y_then (hK44 _ _ ?_)
                      refine y_cond ((t124_46 != 0)) rfl rfl (fun hb156 => ?_) (fun hb156 => ?_)
                      · replace h := h.1 (bne_iff_ne.mp hb156)
                        refine y_seq fun K45 hK45 => ?_
                        refine y_region ?_
                        refine y_k (.bool false : Value) w_47 rfl rfl rfl (by kernel_rfl) ?_
                        refine y_nil ?_
                        refine y_then (hK45 _ _ ?_)
                        refine y_ret ?_
                        repeat (first | refine e_then_r ?_ | refine e_block_r ?_)
                        exact (hQ0 _ _ _ (res1 (v := (.bool false : Value)) rfl rfl rfl) ⟨_, rfl, h⟩).1
                      · replace h := h.2 (bne_eq_false_iff_eq.mp hb156)
                        refine y_skip ?_
                        refine y_then (hK43 _ _ ?_)
                        refine y_seq fun K46 hK46 => ?_
                        refine y_seq fun K47 hK47 => ?_
                        refine y_region ?_
                        refine y_k (.int .i64 0 : Value) w_47 rfl rfl rfl (by kernel_rfl) ?_
                        refine y_nil ?_
                        refine y_then (hK47 _ _ ?_)
                        refine y_block ?_
                        refine y_loop (S := Int) (fun s j => match s with | (f19_48) => upd (upd (upd (upd (j) 2 (.slice s2_3.a s2_3.n s2_3.c : Value)) 3 (.slice b3_4.a b3_4.n b3_4.c : Value)) 10 (.slice (some ⟨w_12.heap.size, 0, none⟩) 3 3 : Value)) 19 (.int .i64 f19_48 : Value)) (0) ?_ h ?_
                        · dsimp only
                          refine upd_id ?_ rfl
                          refine upd_id ?_ rfl
                          refine upd_id ?_ rfl
                          refine upd_id ?_ rfl
                          rfl
                        rintro KN50 next49 hN50 f19_48 j w_49 h
                        unfold F5_l1 at h
                        refine y_seq fun K51 hK51 => ?_
                        refine y_seq fun K52 hK52 => ?_
                        refine y_region ?_
                        refine y_k (.int .i64 f19_48 : Value) w_49 rfl rfl rfl (by kernel_rfl) ?_
                        refine y_k (.bool (decide (f19_48 < 3)) : Value) w_49 rfl rfl rfl (by kernel_rfl) ?_
                        refine y_nil ?_
                        refine y_then (hK52 _ _ ?_)
                        refine y_cond (decide (f19_48 < 3)) rfl rfl (fun hb155 => ?_) (fun hb155 => ?_)
                        · replace h := h.1 (of_decide_eq_true hb155)
                          refine y_skip ?_
                          refine y_then (hK51 _ _ ?_)
                          refine y_seq fun K53 hK53 => ?_
                          refine y_block ?_
                          refine y_seq fun K55 hK55 => ?_
                          refine y_region ?_
                          refine y_k (.int .i64 0 : Value) w_49 rfl rfl rfl (by kernel_rfl) ?_
                          refine y_nil ?_
                          refine y_then (hK55 _ _ ?_)
                          refine y_block ?_
                          refine y_loop (S := Int) (fun s j => match s with | (c20_50) => upd (upd (upd (upd (upd (j) 2 (.slice s2_3.a s2_3.n s2_3.c : Value)) 3 (.slice b3_4.a b3_4.n b3_4.c : Value)) 10 (.slice (some ⟨w_12.heap.size, 0, none⟩) 3 3 : Value)) 19 (.int .i64 f19_48 : Value)) 20 (.int .i64 c20_50 : Value)) (0) ?_ h ?_
                          · dsimp only
                            refine upd_id ?_ rfl
                            refine upd_id ?_ rfl
                            refine upd_id ?_ rfl
                            refine upd_id ?_ rfl
                            refine upd_id ?_ rfl
                            rfl
                          rintro KN58 next57 hN58 c20_50 j w_51 h
                          unfold F5_l2 at h
                          refine y_seq fun K59 hK59 => ?_
                          refine y_seq fun K60 hK60 => ?_
                          refine y_region ?_
                          refine y_k (.int .i64 c20_50 : Value) w_51 rfl rfl rfl (by kernel_rfl) ?_
                          refine y_k (.slice (some ⟨w_12.heap.size, 0, none⟩) 3 3 : Value) w_51 rfl rfl rfl (by kernel_rfl) ?_
                          refine y_k (.int .i64 f19_48 : Value) w_51 rfl rfl rfl (by kernel_rfl) ?_
                          obtain ⟨hx61a, hx61b, a_52, hx61, h⟩ := h
                          refine y_v (v := (.pointer (some (a_52.add (Int.toNat f19_48))) : Value)) (s := Instr.indexAt 26 (.slice (some ⟨w_12.heap.size, 0, none⟩) 3 3 : Value) (.int .i64 f19_48 : Value)) rfl rfl rfl (by kernel_rfl) (run_ixs1 (el := 22) (by kernel_rfl) (by kernel_rfl) hx61 hx61a hx61b) ?_
                          obtain ⟨t137_53, hx62, h⟩ := h
                          refine y_v (s := Instr.loadAt 22 (.pointer (some (a_52.add (Int.toNat f19_48))))) rfl rfl rfl (by kernel_rfl) (rn_load (by kernel_rfl) hx62) ?_
                          refine y_k (.int .i64 ((t137_53.n : Int)) : Value) w_51 rfl rfl rfl (by kernel_rfl) ?_
                          refine y_k (.bool (decide (c20_50 < ((t137_53.n : Int)))) : Value) w_51 rfl rfl rfl (by kernel_rfl) ?_
                          refine y_k (.bool (decide (c20_50 < ((t137_53.n : Int)))) : Value) w_51 rfl rfl rfl (by kernel_rfl) ?_
                          refine y_fork (decide (c20_50 < ((t137_53.n : Int)))) (fun hb63 => ?_) (fun hb63 => ?_)
                          · replace h := h.1 (of_decide_eq_true hb63)
                            refine y_frame (upd_id (i := 140) (v := .bool true) rfl (congrArg Value.bool hb63)) ?_
                            refine y_gyes rfl rfl rfl ?_
                            refine y_k (.int .i64 c20_50 : Value) w_51 rfl rfl rfl (by kernel_rfl) ?_
                            refine y_gyes rfl rfl rfl ?_
                            refine y_k (.bool (decide (c20_50 < 12)) : Value) w_51 rfl rfl rfl (by kernel_rfl) ?_
                            refine y_k (.bool (decide (c20_50 < 12)) : Value) w_51 rfl rfl rfl (by kernel_rfl) ?_
                            refine y_nil ?_
                            refine y_then (hK60 _ _ ?_)
                            refine y_cond (decide (c20_50 < 12)) rfl rfl (fun hb90 => ?_) (fun hb90 => ?_)
                            · replace h := h.1 (of_decide_eq_true hb90)
                              refine y_skip ?_
                              refine y_then (hK59 _ _ ?_)
                              refine y_seq fun K64 hK64 => ?_
                              refine y_block ?_
                              refine y_seq fun K66 hK66 => ?_
                              refine y_region ?_
                              refine y_k (.slice (some ⟨w_12.heap.size, 0, none⟩) 3 3 : Value) w_51 rfl rfl rfl (by kernel_rfl) ?_
                              refine y_k (.int .i64 f19_48 : Value) w_51 rfl rfl rfl (by kernel_rfl) ?_
                              obtain ⟨hx67a, hx67b, a_54, hx67, h⟩ := h
                              refine y_v (v := (.pointer (some (a_54.add (Int.toNat f19_48))) : Value)) (s := Instr.indexAt 26 (.slice (some ⟨w_12.heap.size, 0, none⟩) 3 3 : Value) (.int .i64 f19_48 : Value)) rfl rfl rfl (by kernel_rfl) (run_ixs1 (el := 22) (by kernel_rfl) (by kernel_rfl) hx67 hx67a hx67b) ?_
                              obtain ⟨t150_55, hx68, h⟩ := h
                              refine y_v (s := Instr.loadAt 22 (.pointer (some (a_54.add (Int.toNat f19_48))))) rfl rfl rfl (by kernel_rfl) (rn_load (by kernel_rfl) hx68) ?_
                              refine y_k (.int .i64 c20_50 : Value) w_51 rfl rfl rfl (by kernel_rfl) ?_
                              obtain ⟨t152_56, hx69, h⟩ := h
                              refine y_v (s := Instr.sliceAt 22 (.slice t150_55.a t150_55.n t150_55.c : Value) none (some (.int .i64 c20_50 : Value)) none) rfl rfl rfl (by kernel_rfl) (hx69) ?_
                              refine y_call rfl rfl rfl (by kernel_rfl) (h.mono ?_)
                              rintro _ w_59 ⟨t153_57, t153_58, rfl, h⟩
                              refine ⟨_, rfl, ?_⟩
                              refine y_k (.tuple #[.int .u64 t153_57, .int .i64 t153_58] : Value) w_59 rfl rfl rfl (by kernel_rfl) ?_
                              refine y_k (.int .u64 t153_57 : Value) w_59 rfl rfl rfl (by kernel_rfl) ?_
                              refine y_k (.int .i64 t153_58 : Value) w_59 rfl rfl rfl (by kernel_rfl) ?_
                              refine y_k (.int .u64 t153_57 : Value) w_59 rfl rfl rfl (by kernel_rfl) ?_
                              refine y_k (.int .i64 t153_58 : Value) w_59 rfl rfl rfl (by kernel_rfl) ?_
                              refine y_nil ?_
                              refine y_then (hK66 _ _ ?_)
                              refine y_seq fun K70 hK70 => ?_
                              refine y_region ?_
                              refine y_k (.slice (some ⟨w_12.heap.size, 0, none⟩) 3 3 : Value) w_59 rfl rfl rfl (by kernel_rfl) ?_
                              refine y_k (.int .i64 f19_48 : Value) w_59 rfl rfl rfl (by kernel_rfl) ?_
                              obtain ⟨hx71a, hx71b, a_60, hx71, h⟩ := h
                              refine y_v (v := (.pointer (some (a_60.add (Int.toNat f19_48))) : Value)) (s := Instr.indexAt 26 (.slice (some ⟨w_12.heap.size, 0, none⟩) 3 3 : Value) (.int .i64 f19_48 : Value)) rfl rfl rfl (by kernel_rfl) (run_ixs1 (el := 22) (by kernel_rfl) (by kernel_rfl) hx71 hx71a hx71b) ?_
                              obtain ⟨t160_61, hx72, h⟩ := h
                              refine y_v (s := Instr.loadAt 22 (.pointer (some (a_60.add (Int.toNat f19_48))))) rfl rfl rfl (by kernel_rfl) (rn_load (by kernel_rfl) hx72) ?_
                              refine y_k (.int .i64 c20_50 : Value) w_59 rfl rfl rfl (by kernel_rfl) ?_
                              obtain ⟨t162_62, hx73, h⟩ := h
                              refine y_v (s := Instr.sliceAt 22 (.slice t160_61.a t160_61.n t160_61.c : Value) none (some (.int .i64 c20_50 : Value)) none) rfl rfl rfl (by kernel_rfl) (hx73) ?_
                              refine y_call rfl rfl rfl (by kernel_rfl) (h.mono ?_)
                              rintro _ w_65 ⟨t163_63, t163_64, rfl, h⟩
                              refine ⟨_, rfl, ?_⟩
                              refine y_k (.tuple #[.int .i64 t163_63, .int .i64 t163_64] : Value) w_65 rfl rfl rfl (by kernel_rfl) ?_
                              refine y_k (.int .i64 t163_63 : Value) w_65 rfl rfl rfl (by kernel_rfl) ?_
                              refine y_k (.int .i64 t163_64 : Value) w_65 rfl rfl rfl (by kernel_rfl) ?_
                              refine y_k (.int .i64 t163_63 : Value) w_65 rfl rfl rfl (by kernel_rfl) ?_
                              refine y_k (.int .i64 t163_64 : Value) w_65 rfl rfl rfl (by kernel_rfl) ?_
                              refine y_nil ?_
                              refine y_then (hK70 _ _ ?_)
                              refine y_seq fun K74 hK74 => ?_
                              refine y_region ?_
                              refine y_k (.slice (some ⟨w_12.heap.size, 0, none⟩) 3 3 : Value) w_65 rfl rfl rfl (by kernel_rfl) ?_
                              refine y_k (.int .i64 f19_48 : Value) w_65 rfl rfl rfl (by kernel_rfl) ?_
                              obtain ⟨hx75a, hx75b, a_66, hx75, h⟩ := h
                              refine y_v (v := (.pointer (some (a_66.add (Int.toNat f19_48))) : Value)) (s := Instr.indexAt 26 (.slice (some ⟨w_12.heap.size, 0, none⟩) 3 3 : Value) (.int .i64 f19_48 : Value)) rfl rfl rfl (by kernel_rfl) (run_ixs1 (el := 22) (by kernel_rfl) (by kernel_rfl) hx75 hx75a hx75b) ?_
                              obtain ⟨t170_67, hx76, h⟩ := h
                              refine y_v (s := Instr.loadAt 22 (.pointer (some (a_66.add (Int.toNat f19_48))))) rfl rfl rfl (by kernel_rfl) (rn_load (by kernel_rfl) hx76) ?_
                              refine y_k (.int .i64 c20_50 : Value) w_65 rfl rfl rfl (by kernel_rfl) ?_
                              obtain ⟨t172_68, hx77, h⟩ := h
                              refine y_v (s := Instr.sliceAt 22 (.slice t170_67.a t170_67.n t170_67.c : Value) none (some (.int .i64 c20_50 : Value)) none) rfl rfl rfl (by kernel_rfl) (hx77) ?_
                              refine y_k (.slice s2_3.a s2_3.n s2_3.c : Value) w_65 rfl rfl rfl (by kernel_rfl) ?_
                              refine y_k (.int .i64 ((s2_3.n : Int)) : Value) w_65 rfl rfl rfl (by kernel_rfl) ?_
                              refine y_call rfl rfl rfl (by kernel_rfl) (h.mono ?_)
                              rintro _ w_71 ⟨t175_69, t175_70, rfl, h⟩
                              refine ⟨_, rfl, ?_⟩
                              refine y_k (.tuple #[.slice t175_69.a t175_69.n t175_69.c, .int .i64 t175_70] : Value) w_71 rfl rfl rfl (by kernel_rfl) ?_
                              refine y_k (.slice t175_69.a t175_69.n t175_69.c : Value) w_71 rfl rfl rfl (by kernel_rfl) ?_
                              refine y_k (.int .i64 t175_70 : Value) w_71 rfl rfl rfl (by kernel_rfl) ?_
                              refine y_k (.slice t175_69.a t175_69.n t175_69.c : Value) w_71 rfl rfl rfl (by kernel_rfl) ?_
                              refine y_k (.int .i64 t175_70 : Value) w_71 rfl rfl rfl (by kernel_rfl) ?_
                              refine y_nil ?_
                              refine y_then (hK74 _ _ ?_)
                              refine y_seq fun K78 hK78 => ?_
                              refine y_region ?_
                              refine y_k (.int .i64 f19_48 : Value) w_71 rfl rfl rfl (by kernel_rfl) ?_
                              refine y_k (.bool (decide (f19_48 < 2)) : Value) w_71 rfl rfl rfl (by kernel_rfl) ?_
                              refine y_k (.bool (decide (f19_48 < 2)) : Value) w_71 rfl rfl rfl (by kernel_rfl) ?_
                              refine y_fork (decide (f19_48 < 2)) (fun hb79 => ?_) (fun hb79 => ?_)
                              · replace h := h.1 (of_decide_eq_true hb79)
                                refine y_frame (upd_id (i := 180) (v := .bool true) rfl (congrArg Value.bool hb79)) ?_
                                refine y_gyes rfl rfl rfl ?_
                                refine y_k (.int .i64 t153_58 : Value) w_71 rfl rfl rfl (by kernel_rfl) ?_
                                refine y_gyes rfl rfl rfl ?_
                                refine y_k (.bool ((t153_58 != 0)) : Value) w_71 rfl rfl rfl (by kernel_rfl) ?_
                                refine y_gyes rfl rfl rfl ?_
                                refine y_k (.bool ((t153_58 != 0)) : Value) w_71 rfl rfl rfl (by kernel_rfl) ?_
                                refine y_fork ((t153_58 != 0)) (fun hb80 => ?_) (fun hb80 => ?_)
                                · replace h := h.1 (bne_iff_ne.mp hb80)
                                  refine y_frame (upd_id (i := 183) (v := .bool true) rfl (congrArg Value.bool hb80)) ?_
                                  refine y_gno rfl rfl rfl rfl ?_
                                  refine y_gno rfl rfl rfl rfl ?_
                                  refine y_gyes rfl rfl rfl ?_
                                  refine y_k (.bool true : Value) w_71 rfl rfl rfl (by kernel_rfl) ?_
                                  refine y_k (.bool true : Value) w_71 rfl rfl rfl (by kernel_rfl) ?_
                                  refine y_k (.bool true : Value) w_71 rfl rfl rfl (by kernel_rfl) ?_
                                  refine y_gno rfl rfl rfl rfl ?_
                                  refine y_gno rfl rfl rfl rfl ?_
                                  refine y_gno rfl rfl rfl rfl ?_
                                  refine y_gud rfl rfl rfl rfl ?_
                                  refine y_gud rfl rfl rfl rfl ?_
                                  refine y_gno rfl rfl rfl rfl ?_
                                  refine y_k (.bool true : Value) w_71 rfl rfl rfl (by kernel_rfl) ?_
                                  refine y_nil ?_
                                  refine y_then (hK78 _ _ ?_)
                                  refine y_cond_t rfl rfl ?_
                                  refine y_seq fun K81 hK81 => ?_
                                  refine y_region ?_
                                  refine y_k (.bool false : Value) w_71 rfl rfl rfl (by kernel_rfl) ?_
                                  refine y_nil ?_
                                  refine y_then (hK81 _ _ ?_)
                                  refine y_ret ?_
                                  repeat (first | refine e_then_r ?_ | refine e_block_r ?_)
                                  exact (hQ0 _ _ _ (res1 (v := (.bool false : Value)) rfl rfl rfl) ⟨_, rfl, h⟩).1
                                · replace h := h.2 (bne_eq_false_iff_eq.mp hb80)
                                  refine y_frame (upd_id (i := 183) (v := .bool false) rfl (congrArg Value.bool hb80)) ?_
                                  refine y_gyes rfl rfl rfl ?_
                                  refine y_k (.int .i64 t163_64 : Value) w_71 rfl rfl rfl (by kernel_rfl) ?_
                                  refine y_gyes rfl rfl rfl ?_
                                  refine y_k (.bool ((t163_64 != 0)) : Value) w_71 rfl rfl rfl (by kernel_rfl) ?_
                                  refine y_gyes rfl rfl rfl ?_
                                  refine y_k (.bool ((t163_64 != 0)) : Value) w_71 rfl rfl rfl (by kernel_rfl) ?_
                                  refine y_k (.bool ((t163_64 != 0)) : Value) w_71 rfl rfl rfl (by kernel_rfl) ?_
                                  refine y_k (.bool ((t163_64 != 0)) : Value) w_71 rfl rfl rfl (by kernel_rfl) ?_
                                  refine y_fork ((t163_64 != 0)) (fun hb82 => ?_) (fun hb82 => ?_)
                                  · replace h := h.1 (bne_iff_ne.mp hb82)
                                    refine y_frame (upd_id (i := 188) (v := .bool true) rfl (congrArg Value.bool hb82)) ?_
                                    refine y_gno rfl rfl rfl rfl ?_
                                    refine y_gno rfl rfl rfl rfl ?_
                                    refine y_gno rfl rfl rfl rfl ?_
                                    refine y_gud rfl rfl rfl rfl ?_
                                    refine y_gud rfl rfl rfl rfl ?_
                                    refine y_gno rfl rfl rfl rfl ?_
                                    refine y_k (.bool true : Value) w_71 rfl rfl rfl (by kernel_rfl) ?_
                                    refine y_nil ?_
                                    refine y_then (hK78 _ _ ?_)
                                    refine y_cond_t rfl rfl ?_
                                    refine y_seq fun K83 hK83 => ?_
                                    refine y_region ?_
                                    refine y_k (.bool false : Value) w_71 rfl rfl rfl (by kernel_rfl) ?_
                                    refine y_nil ?_
                                    refine y_then (hK83 _ _ ?_)
                                    refine y_ret ?_
                                    repeat (first | refine e_then_r ?_ | refine e_block_r ?_)
                                    exact (hQ0 _ _ _ (res1 (v := (.bool false : Value)) rfl rfl rfl) ⟨_, rfl, h⟩).1
                                  · replace h := h.2 (bne_eq_false_iff_eq.mp hb82)
                                    refine y_frame (upd_id (i := 188) (v := .bool false) rfl (congrArg Value.bool hb82)) ?_
                                    refine y_gyes rfl rfl rfl ?_
                                    refine y_k (.int .i64 f19_48 : Value) w_71 rfl rfl rfl (by kernel_rfl) ?_
                                    refine y_gyes rfl rfl rfl ?_
                                    refine y_k (.bool ((f19_48 == 2)) : Value) w_71 rfl rfl rfl (by kernel_rfl) ?_
                                    refine y_gyes rfl rfl rfl ?_
                                    refine y_k (.bool ((f19_48 == 2)) : Value) w_71 rfl rfl rfl (by kernel_rfl) ?_
                                    refine y_fork ((f19_48 == 2)) (fun hb84 => ?_) (fun hb84 => ?_)
                                    · replace h := h.1 (eq_of_beq hb84)
                                      refine y_frame (upd_id (i := 191) (v := .bool true) rfl (congrArg Value.bool hb84)) ?_
                                      refine y_gyes rfl rfl rfl ?_
                                      refine y_k (.int .i64 t175_70 : Value) w_71 rfl rfl rfl (by kernel_rfl) ?_
                                      refine y_gyes rfl rfl rfl ?_
                                      refine y_k (.bool ((t175_70 != 0)) : Value) w_71 rfl rfl rfl (by kernel_rfl) ?_
                                      refine y_gyes rfl rfl rfl ?_
                                      refine y_k (.bool ((t175_70 != 0)) : Value) w_71 rfl rfl rfl (by kernel_rfl) ?_
                                      refine y_k (.bool ((t175_70 != 0)) : Value) w_71 rfl rfl rfl (by kernel_rfl) ?_
                                      refine y_nil ?_
                                      refine y_then (hK78 _ _ ?_)
                                      refine y_cond ((t175_70 != 0)) rfl rfl (fun hb86 => ?_) (fun hb86 => ?_)
                                      · replace h := h.1 (bne_iff_ne.mp hb86)
                                        refine y_seq fun K85 hK85 => ?_
                                        refine y_region ?_
                                        refine y_k (.bool false : Value) w_71 rfl rfl rfl (by kernel_rfl) ?_
                                        refine y_nil ?_
                                        refine y_then (hK85 _ _ ?_)
                                        refine y_ret ?_
                                        repeat (first | refine e_then_r ?_ | refine e_block_r ?_)
                                        exact (hQ0 _ _ _ (res1 (v := (.bool false : Value)) rfl rfl rfl) ⟨_, rfl, h⟩).1
                                      · replace h := h.2 (bne_eq_false_iff_eq.mp hb86)
                                        refine y_skip ?_
                                        refine e_block_n ?_
                                        refine y_then (hK64 _ _ ?_)
                                        refine y_region ?_
                                        refine y_k (.int .i64 c20_50 : Value) w_71 rfl rfl rfl (by kernel_rfl) ?_
                                        refine y_k (.int .i64 (IntKind.i64.wrap (c20_50 + 1)) : Value) w_71 rfl rfl rfl (by kernel_rfl) ?_
                                        refine y_k (.int .i64 (IntKind.i64.wrap (c20_50 + 1)) : Value) w_71 rfl rfl rfl (by kernel_rfl) ?_
                                        refine y_nil ?_
                                        refine y_then (hN58 (IntKind.i64.wrap (c20_50 + 1)) _ _ h ?_)
                                        dsimp only
                                        refine upd_id ?_ rfl
                                        refine upd_id ?_ rfl
                                        refine upd_id ?_ rfl
                                        refine upd_id ?_ rfl
                                        refine upd_id ?_ rfl
                                        rfl
                                    · replace h := h.2 (beq_eq_false_iff_ne.mp hb84)
                                      refine y_frame (upd_id (i := 191) (v := .bool false) rfl (congrArg Value.bool hb84)) ?_
                                      refine y_gno rfl rfl rfl rfl ?_
                                      refine y_gno rfl rfl rfl rfl ?_
                                      refine y_gyes rfl rfl rfl ?_
                                      refine y_k (.bool false : Value) w_71 rfl rfl rfl (by kernel_rfl) ?_
                                      refine y_k (.bool false : Value) w_71 rfl rfl rfl (by kernel_rfl) ?_
                                      refine y_nil ?_
                                      refine y_then (hK78 _ _ ?_)
                                      refine y_cond_f rfl rfl ?_
                                      refine y_skip ?_
                                      refine e_block_n ?_
                                      refine y_then (hK64 _ _ ?_)
                                      refine y_region ?_
                                      refine y_k (.int .i64 c20_50 : Value) w_71 rfl rfl rfl (by kernel_rfl) ?_
                                      refine y_k (.int .i64 (IntKind.i64.wrap (c20_50 + 1)) : Value) w_71 rfl rfl rfl (by kernel_rfl) ?_
                                      refine y_k (.int .i64 (IntKind.i64.wrap (c20_50 + 1)) : Value) w_71 rfl rfl rfl (by kernel_rfl) ?_
                                      refine y_nil ?_
                                      refine y_then (hN58 (IntKind.i64.wrap (c20_50 + 1)) _ _ h ?_)
                                      dsimp only
                                      refine upd_id ?_ rfl
                                      refine upd_id ?_ rfl
                                      refine upd_id ?_ rfl
                                      refine upd_id ?_ rfl
                                      refine upd_id ?_ rfl
                                      rfl
                              · replace h := h.2 (of_decide_eq_false hb79)
                                refine y_frame (upd_id (i := 180) (v := .bool false) rfl (congrArg Value.bool hb79)) ?_
                                refine y_gno rfl rfl rfl rfl ?_
                                refine y_gno rfl rfl rfl rfl ?_
                                refine y_gno rfl rfl rfl rfl ?_
                                refine y_gud rfl rfl rfl rfl ?_
                                refine y_gud rfl rfl rfl rfl ?_
                                refine y_gno rfl rfl rfl rfl ?_
                                refine y_k (.bool false : Value) w_71 rfl rfl rfl (by kernel_rfl) ?_
                                refine y_k (.bool false : Value) w_71 rfl rfl rfl (by kernel_rfl) ?_
                                refine y_gyes rfl rfl rfl ?_
                                refine y_k (.int .i64 f19_48 : Value) w_71 rfl rfl rfl (by kernel_rfl) ?_
                                refine y_gyes rfl rfl rfl ?_
                                refine y_k (.bool ((f19_48 == 2)) : Value) w_71 rfl rfl rfl (by kernel_rfl) ?_
                                refine y_gyes rfl rfl rfl ?_
                                refine y_k (.bool ((f19_48 == 2)) : Value) w_71 rfl rfl rfl (by kernel_rfl) ?_
                                refine y_fork ((f19_48 == 2)) (fun hb87 => ?_) (fun hb87 => ?_)
                                · replace h := h.1 (eq_of_beq hb87)
                                  refine y_frame (upd_id (i := 191) (v := .bool true) rfl (congrArg Value.bool hb87)) ?_
                                  refine y_gyes rfl rfl rfl ?_
                                  refine y_k (.int .i64 t175_70 : Value) w_71 rfl rfl rfl (by kernel_rfl) ?_
                                  refine y_gyes rfl rfl rfl ?_
                                  refine y_k (.bool ((t175_70 != 0)) : Value) w_71 rfl rfl rfl (by kernel_rfl) ?_
                                  refine y_gyes rfl rfl rfl ?_
                                  refine y_k (.bool ((t175_70 != 0)) : Value) w_71 rfl rfl rfl (by kernel_rfl) ?_
                                  refine y_k (.bool ((t175_70 != 0)) : Value) w_71 rfl rfl rfl (by kernel_rfl) ?_
                                  refine y_nil ?_
                                  refine y_then (hK78 _ _ ?_)
                                  refine y_cond ((t175_70 != 0)) rfl rfl (fun hb89 => ?_) (fun hb89 => ?_)
                                  · replace h := h.1 (bne_iff_ne.mp hb89)
                                    refine y_seq fun K88 hK88 => ?_
                                    refine y_region ?_
                                    refine y_k (.bool false : Value) w_71 rfl rfl rfl (by kernel_rfl) ?_
                                    refine y_nil ?_
                                    refine y_then (hK88 _ _ ?_)
                                    refine y_ret ?_
                                    repeat (first | refine e_then_r ?_ | refine e_block_r ?_)
                                    exact (hQ0 _ _ _ (res1 (v := (.bool false : Value)) rfl rfl rfl) ⟨_, rfl, h⟩).1
                                  · replace h := h.2 (bne_eq_false_iff_eq.mp hb89)
                                    refine y_skip ?_
                                    refine e_block_n ?_
                                    refine y_then (hK64 _ _ ?_)
                                    refine y_region ?_
                                    refine y_k (.int .i64 c20_50 : Value) w_71 rfl rfl rfl (by kernel_rfl) ?_
                                    refine y_k (.int .i64 (IntKind.i64.wrap (c20_50 + 1)) : Value) w_71 rfl rfl rfl (by kernel_rfl) ?_
                                    refine y_k (.int .i64 (IntKind.i64.wrap (c20_50 + 1)) : Value) w_71 rfl rfl rfl (by kernel_rfl) ?_
                                    refine y_nil ?_
                                    refine y_then (hN58 (IntKind.i64.wrap (c20_50 + 1)) _ _ h ?_)
                                    dsimp only
                                    refine upd_id ?_ rfl
                                    refine upd_id ?_ rfl
                                    refine upd_id ?_ rfl
                                    refine upd_id ?_ rfl
                                    refine upd_id ?_ rfl
                                    rfl
                                · replace h := h.2 (beq_eq_false_iff_ne.mp hb87)
                                  refine y_frame (upd_id (i := 191) (v := .bool false) rfl (congrArg Value.bool hb87)) ?_
                                  refine y_gno rfl rfl rfl rfl ?_
                                  refine y_gno rfl rfl rfl rfl ?_
                                  refine y_gyes rfl rfl rfl ?_
                                  refine y_k (.bool false : Value) w_71 rfl rfl rfl (by kernel_rfl) ?_
                                  refine y_k (.bool false : Value) w_71 rfl rfl rfl (by kernel_rfl) ?_
                                  refine y_nil ?_
                                  refine y_then (hK78 _ _ ?_)
                                  refine y_cond_f rfl rfl ?_
                                  refine y_skip ?_
                                  refine e_block_n ?_
                                  refine y_then (hK64 _ _ ?_)
                                  refine y_region ?_
                                  refine y_k (.int .i64 c20_50 : Value) w_71 rfl rfl rfl (by kernel_rfl) ?_
                                  refine y_k (.int .i64 (IntKind.i64.wrap (c20_50 + 1)) : Value) w_71 rfl rfl rfl (by kernel_rfl) ?_
                                  refine y_k (.int .i64 (IntKind.i64.wrap (c20_50 + 1)) : Value) w_71 rfl rfl rfl (by kernel_rfl) ?_
                                  refine y_nil ?_
                                  refine y_then (hN58 (IntKind.i64.wrap (c20_50 + 1)) _ _ h ?_)
                                  dsimp only
                                  refine upd_id ?_ rfl
                                  refine upd_id ?_ rfl
                                  refine upd_id ?_ rfl
                                  refine upd_id ?_ rfl
                                  refine upd_id ?_ rfl
                                  rfl
                            · replace h := h.2 (of_decide_eq_false hb90)
                              refine y_exit ?_
                              repeat (first | refine e_then_x ?_ | refine e_block_y rfl ?_)
                              refine e_block_x ?_
                              refine e_block_n ?_
                              refine y_then (hK53 _ _ ?_)
                              refine y_region ?_
                              refine y_k (.int .i64 f19_48 : Value) w_51 rfl rfl rfl (by kernel_rfl) ?_
                              refine y_k (.int .i64 (IntKind.i64.wrap (f19_48 + 1)) : Value) w_51 rfl rfl rfl (by kernel_rfl) ?_
                              refine y_k (.int .i64 (IntKind.i64.wrap (f19_48 + 1)) : Value) w_51 rfl rfl rfl (by kernel_rfl) ?_
                              refine y_nil ?_
                              refine y_then (hN50 (IntKind.i64.wrap (f19_48 + 1)) _ _ h ?_)
                              dsimp only
                              refine upd_id ?_ rfl
                              refine upd_id ?_ rfl
                              refine upd_id ?_ rfl
                              refine upd_id ?_ rfl
                              rfl
                          · replace h := h.2 (of_decide_eq_false hb63)
                            refine y_frame (upd_id (i := 140) (v := .bool false) rfl (congrArg Value.bool hb63)) ?_
                            refine y_gno rfl rfl rfl rfl ?_
                            refine y_gno rfl rfl rfl rfl ?_
                            refine y_k (.bool false : Value) w_51 rfl rfl rfl (by kernel_rfl) ?_
                            refine y_nil ?_
                            refine y_then (hK60 _ _ ?_)
                            refine y_cond_f rfl rfl ?_
                            refine y_exit ?_
                            repeat (first | refine e_then_x ?_ | refine e_block_y rfl ?_)
                            refine e_block_x ?_
                            refine e_block_n ?_
                            refine y_then (hK53 _ _ ?_)
                            refine y_region ?_
                            refine y_k (.int .i64 f19_48 : Value) w_51 rfl rfl rfl (by kernel_rfl) ?_
                            refine y_k (.int .i64 (IntKind.i64.wrap (f19_48 + 1)) : Value) w_51 rfl rfl rfl (by kernel_rfl) ?_
                            refine y_k (.int .i64 (IntKind.i64.wrap (f19_48 + 1)) : Value) w_51 rfl rfl rfl (by kernel_rfl) ?_
                            refine y_nil ?_
                            refine y_then (hN50 (IntKind.i64.wrap (f19_48 + 1)) _ _ h ?_)
                            dsimp only
                            refine upd_id ?_ rfl
                            refine upd_id ?_ rfl
                            refine upd_id ?_ rfl
                            refine upd_id ?_ rfl
                            rfl
                        · replace h := h.2 (of_decide_eq_false hb155)
                          refine y_exit ?_
                          repeat (first | refine e_then_x ?_ | refine e_block_y rfl ?_)
                          refine e_block_x ?_
                          refine y_then (hK46 _ _ ?_)
                          refine y_seq fun K91 hK91 => ?_
                          refine y_region ?_
                          refine y_k (.slice b3_4.a b3_4.n b3_4.c : Value) w_49 rfl rfl rfl (by kernel_rfl) ?_
                          refine y_call rfl rfl rfl (by kernel_rfl) (h.mono ?_)
                          rintro _ w_74 ⟨t198_72, t198_73, rfl, h⟩
                          refine ⟨_, rfl, ?_⟩
                          refine y_k (.tuple #[.int .u64 t198_72, .int .i64 t198_73] : Value) w_74 rfl rfl rfl (by kernel_rfl) ?_
                          refine y_k (.int .u64 t198_72 : Value) w_74 rfl rfl rfl (by kernel_rfl) ?_
                          refine y_k (.int .i64 t198_73 : Value) w_74 rfl rfl rfl (by kernel_rfl) ?_
                          refine y_k (.int .u64 t198_72 : Value) w_74 rfl rfl rfl (by kernel_rfl) ?_
                          refine y_k (.int .i64 t198_73 : Value) w_74 rfl rfl rfl (by kernel_rfl) ?_
                          refine y_nil ?_
                          refine y_then (hK91 _ _ ?_)
                          refine y_seq fun K92 hK92 => ?_
                          refine y_region ?_
                          refine y_k (.slice b3_4.a b3_4.n b3_4.c : Value) w_74 rfl rfl rfl (by kernel_rfl) ?_
                          refine y_call rfl rfl rfl (by kernel_rfl) (h.mono ?_)
                          rintro _ w_77 ⟨t203_75, t203_76, rfl, h⟩
                          refine ⟨_, rfl, ?_⟩
                          refine y_k (.tuple #[.int .i64 t203_75, .int .i64 t203_76] : Value) w_77 rfl rfl rfl (by kernel_rfl) ?_
                          refine y_k (.int .i64 t203_75 : Value) w_77 rfl rfl rfl (by kernel_rfl) ?_
                          refine y_k (.int .i64 t203_76 : Value) w_77 rfl rfl rfl (by kernel_rfl) ?_
                          refine y_k (.int .i64 t203_75 : Value) w_77 rfl rfl rfl (by kernel_rfl) ?_
                          refine y_k (.int .i64 t203_76 : Value) w_77 rfl rfl rfl (by kernel_rfl) ?_
                          refine y_nil ?_
                          refine y_then (hK92 _ _ ?_)
                          refine y_seq fun K93 hK93 => ?_
                          refine y_region ?_
                          refine y_k (.slice b3_4.a b3_4.n b3_4.c : Value) w_77 rfl rfl rfl (by kernel_rfl) ?_
                          refine y_k (.slice b3_4.a b3_4.n b3_4.c : Value) w_77 rfl rfl rfl (by kernel_rfl) ?_
                          refine y_k (.int .i64 ((b3_4.n : Int)) : Value) w_77 rfl rfl rfl (by kernel_rfl) ?_
                          refine y_call rfl rfl rfl (by kernel_rfl) (h.mono ?_)
                          rintro _ w_80 ⟨t210_78, t210_79, rfl, h⟩
                          refine ⟨_, rfl, ?_⟩
                          refine y_k (.tuple #[.slice t210_78.a t210_78.n t210_78.c, .int .i64 t210_79] : Value) w_80 rfl rfl rfl (by kernel_rfl) ?_
                          refine y_k (.slice t210_78.a t210_78.n t210_78.c : Value) w_80 rfl rfl rfl (by kernel_rfl) ?_
                          refine y_k (.int .i64 t210_79 : Value) w_80 rfl rfl rfl (by kernel_rfl) ?_
                          refine y_k (.slice t210_78.a t210_78.n t210_78.c : Value) w_80 rfl rfl rfl (by kernel_rfl) ?_
                          refine y_k (.int .i64 t210_79 : Value) w_80 rfl rfl rfl (by kernel_rfl) ?_
                          refine y_nil ?_
                          refine y_then (hK93 _ _ ?_)
                          refine y_seq fun K94 hK94 => ?_
                          refine y_seq fun K95 hK95 => ?_
                          refine y_region ?_
                          refine y_k (.int .i64 t198_73 : Value) w_80 rfl rfl rfl (by kernel_rfl) ?_
                          refine y_k (.bool (decide (t198_73 < 0)) : Value) w_80 rfl rfl rfl (by kernel_rfl) ?_
                          refine y_k (.bool (decide (t198_73 < 0)) : Value) w_80 rfl rfl rfl (by kernel_rfl) ?_
                          refine y_fork (decide (t198_73 < 0)) (fun hb96 => ?_) (fun hb96 => ?_)
                          · replace h := h.1 (of_decide_eq_true hb96)
                            refine y_frame (upd_id (i := 215) (v := .bool true) rfl (congrArg Value.bool hb96)) ?_
                            refine y_gno rfl rfl rfl rfl ?_
                            refine y_gno rfl rfl rfl rfl ?_
                            refine y_k (.bool true : Value) w_80 rfl rfl rfl (by kernel_rfl) ?_
                            refine y_k (.bool true : Value) w_80 rfl rfl rfl (by kernel_rfl) ?_
                            refine y_gno rfl rfl rfl rfl ?_
                            refine y_gno rfl rfl rfl rfl ?_
                            refine y_k (.bool true : Value) w_80 rfl rfl rfl (by kernel_rfl) ?_
                            refine y_k (.bool true : Value) w_80 rfl rfl rfl (by kernel_rfl) ?_
                            refine y_gno rfl rfl rfl rfl ?_
                            refine y_gno rfl rfl rfl rfl ?_
                            refine y_gno rfl rfl rfl rfl ?_
                            refine y_gno rfl rfl rfl rfl ?_
                            refine y_k (.bool true : Value) w_80 rfl rfl rfl (by kernel_rfl) ?_
                            refine y_k (.bool true : Value) w_80 rfl rfl rfl (by kernel_rfl) ?_
                            refine y_gno rfl rfl rfl rfl ?_
                            refine y_gno rfl rfl rfl rfl ?_
                            refine y_gno rfl rfl rfl rfl ?_
                            refine y_gno rfl rfl rfl rfl ?_
                            refine y_k (.bool true : Value) w_80 rfl rfl rfl (by kernel_rfl) ?_
                            refine y_k (.bool true : Value) w_80 rfl rfl rfl (by kernel_rfl) ?_
                            refine y_gno rfl rfl rfl rfl ?_
                            refine y_gno rfl rfl rfl rfl ?_
                            refine y_gno rfl rfl rfl rfl ?_
                            refine y_gno rfl rfl rfl rfl ?_
                            refine y_k (.bool true : Value) w_80 rfl rfl rfl (by kernel_rfl) ?_
                            refine y_nil ?_
                            refine y_then (hK95 _ _ ?_)
                            refine y_cond_t rfl rfl ?_
                            refine y_seq fun K97 hK97 => ?_
                            refine y_region ?_
                            refine y_k (.bool false : Value) w_80 rfl rfl rfl (by kernel_rfl) ?_
                            refine y_nil ?_
                            refine y_then (hK97 _ _ ?_)
                            refine y_ret ?_
                            repeat (first | refine e_then_r ?_ | refine e_block_r ?_)
                            exact (hQ0 _ _ _ (res1 (v := (.bool false : Value)) rfl rfl rfl) ⟨_, rfl, h⟩).1
                          · replace h := h.2 (of_decide_eq_false hb96)
                            refine y_frame (upd_id (i := 215) (v := .bool false) rfl (congrArg Value.bool hb96)) ?_
                            refine y_gyes rfl rfl rfl ?_
                            refine y_k (.int .i64 t203_76 : Value) w_80 rfl rfl rfl (by kernel_rfl) ?_
                            refine y_gyes rfl rfl rfl ?_
                            refine y_k (.bool (decide (t203_76 < 0)) : Value) w_80 rfl rfl rfl (by kernel_rfl) ?_
                            refine y_k (.bool (decide (t203_76 < 0)) : Value) w_80 rfl rfl rfl (by kernel_rfl) ?_
                            refine y_k (.bool (decide (t203_76 < 0)) : Value) w_80 rfl rfl rfl (by kernel_rfl) ?_
                            refine y_fork (decide (t203_76 < 0)) (fun hb98 => ?_) (fun hb98 => ?_)
                            · replace h := h.1 (of_decide_eq_true hb98)
                              refine y_frame (upd_id (i := 219) (v := .bool true) rfl (congrArg Value.bool hb98)) ?_
                              refine y_gno rfl rfl rfl rfl ?_
                              refine y_gno rfl rfl rfl rfl ?_
                              refine y_k (.bool true : Value) w_80 rfl rfl rfl (by kernel_rfl) ?_
                              refine y_k (.bool true : Value) w_80 rfl rfl rfl (by kernel_rfl) ?_
                              refine y_gno rfl rfl rfl rfl ?_
                              refine y_gno rfl rfl rfl rfl ?_
                              refine y_gno rfl rfl rfl rfl ?_
                              refine y_gno rfl rfl rfl rfl ?_
                              refine y_k (.bool true : Value) w_80 rfl rfl rfl (by kernel_rfl) ?_
                              refine y_k (.bool true : Value) w_80 rfl rfl rfl (by kernel_rfl) ?_
                              refine y_gno rfl rfl rfl rfl ?_
                              refine y_gno rfl rfl rfl rfl ?_
                              refine y_gno rfl rfl rfl rfl ?_
                              refine y_gno rfl rfl rfl rfl ?_
                              refine y_k (.bool true : Value) w_80 rfl rfl rfl (by kernel_rfl) ?_
                              refine y_k (.bool true : Value) w_80 rfl rfl rfl (by kernel_rfl) ?_
                              refine y_gno rfl rfl rfl rfl ?_
                              refine y_gno rfl rfl rfl rfl ?_
                              refine y_gno rfl rfl rfl rfl ?_
                              refine y_gno rfl rfl rfl rfl ?_
                              refine y_k (.bool true : Value) w_80 rfl rfl rfl (by kernel_rfl) ?_
                              refine y_nil ?_
                              refine y_then (hK95 _ _ ?_)
                              refine y_cond_t rfl rfl ?_
                              refine y_seq fun K99 hK99 => ?_
                              refine y_region ?_
                              refine y_k (.bool false : Value) w_80 rfl rfl rfl (by kernel_rfl) ?_
                              refine y_nil ?_
                              refine y_then (hK99 _ _ ?_)
                              refine y_ret ?_
                              repeat (first | refine e_then_r ?_ | refine e_block_r ?_)
                              exact (hQ0 _ _ _ (res1 (v := (.bool false : Value)) rfl rfl rfl) ⟨_, rfl, h⟩).1
                            · replace h := h.2 (of_decide_eq_false hb98)
                              refine y_frame (upd_id (i := 219) (v := .bool false) rfl (congrArg Value.bool hb98)) ?_
                              refine y_gyes rfl rfl rfl ?_
                              refine y_k (.int .i64 t210_79 : Value) w_80 rfl rfl rfl (by kernel_rfl) ?_
                              refine y_gyes rfl rfl rfl ?_
                              refine y_k (.bool (decide (t210_79 < 0)) : Value) w_80 rfl rfl rfl (by kernel_rfl) ?_
                              refine y_k (.bool (decide (t210_79 < 0)) : Value) w_80 rfl rfl rfl (by kernel_rfl) ?_
                              refine y_k (.bool (decide (t210_79 < 0)) : Value) w_80 rfl rfl rfl (by kernel_rfl) ?_
                              refine y_fork (decide (t210_79 < 0)) (fun hb100 => ?_) (fun hb100 => ?_)
                              · replace h := h.1 (of_decide_eq_true hb100)
                                refine y_frame (upd_id (i := 223) (v := .bool true) rfl (congrArg Value.bool hb100)) ?_
                                refine y_gno rfl rfl rfl rfl ?_
                                refine y_gno rfl rfl rfl rfl ?_
                                refine y_gno rfl rfl rfl rfl ?_
                                refine y_gno rfl rfl rfl rfl ?_
                                refine y_k (.bool true : Value) w_80 rfl rfl rfl (by kernel_rfl) ?_
                                refine y_k (.bool true : Value) w_80 rfl rfl rfl (by kernel_rfl) ?_
                                refine y_gno rfl rfl rfl rfl ?_
                                refine y_gno rfl rfl rfl rfl ?_
                                refine y_gno rfl rfl rfl rfl ?_
                                refine y_gno rfl rfl rfl rfl ?_
                                refine y_k (.bool true : Value) w_80 rfl rfl rfl (by kernel_rfl) ?_
                                refine y_k (.bool true : Value) w_80 rfl rfl rfl (by kernel_rfl) ?_
                                refine y_gno rfl rfl rfl rfl ?_
                                refine y_gno rfl rfl rfl rfl ?_
                                refine y_gno rfl rfl rfl rfl ?_
                                refine y_gno rfl rfl rfl rfl ?_
                                refine y_k (.bool true : Value) w_80 rfl rfl rfl (by kernel_rfl) ?_
                                refine y_nil ?_
                                refine y_then (hK95 _ _ ?_)
                                refine y_cond_t rfl rfl ?_
                                refine y_seq fun K101 hK101 => ?_
                                refine y_region ?_
                                refine y_k (.bool false : Value) w_80 rfl rfl rfl (by kernel_rfl) ?_
                                refine y_nil ?_
                                refine y_then (hK101 _ _ ?_)
                                refine y_ret ?_
                                repeat (first | refine e_then_r ?_ | refine e_block_r ?_)
                                exact (hQ0 _ _ _ (res1 (v := (.bool false : Value)) rfl rfl rfl) ⟨_, rfl, h⟩).1
                              · replace h := h.2 (of_decide_eq_false hb100)
                                refine y_frame (upd_id (i := 223) (v := .bool false) rfl (congrArg Value.bool hb100)) ?_
                                refine y_gyes rfl rfl rfl ?_
                                refine y_k (.int .i64 t198_73 : Value) w_80 rfl rfl rfl (by kernel_rfl) ?_
                                refine y_gyes rfl rfl rfl ?_
                                refine y_k (.slice b3_4.a b3_4.n b3_4.c : Value) w_80 rfl rfl rfl (by kernel_rfl) ?_
                                refine y_gyes rfl rfl rfl ?_
                                refine y_k (.int .i64 ((b3_4.n : Int)) : Value) w_80 rfl rfl rfl (by kernel_rfl) ?_
                                refine y_gyes rfl rfl rfl ?_
                                refine y_k (.bool (decide (t198_73 > ((b3_4.n : Int)))) : Value) w_80 rfl rfl rfl (by kernel_rfl) ?_
                                refine y_k (.bool (decide (t198_73 > ((b3_4.n : Int)))) : Value) w_80 rfl rfl rfl (by kernel_rfl) ?_
                                refine y_k (.bool (decide (t198_73 > ((b3_4.n : Int)))) : Value) w_80 rfl rfl rfl (by kernel_rfl) ?_
                                refine y_fork (decide (t198_73 > ((b3_4.n : Int)))) (fun hb102 => ?_) (fun hb102 => ?_)
                                · replace h := h.1 (of_decide_eq_true hb102)
                                  refine y_frame (upd_id (i := 229) (v := .bool true) rfl (congrArg Value.bool hb102)) ?_
                                  refine y_gno rfl rfl rfl rfl ?_
                                  refine y_gno rfl rfl rfl rfl ?_
                                  refine y_gno rfl rfl rfl rfl ?_
                                  refine y_gno rfl rfl rfl rfl ?_
                                  refine y_k (.bool true : Value) w_80 rfl rfl rfl (by kernel_rfl) ?_
                                  refine y_k (.bool true : Value) w_80 rfl rfl rfl (by kernel_rfl) ?_
                                  refine y_gno rfl rfl rfl rfl ?_
                                  refine y_gno rfl rfl rfl rfl ?_
                                  refine y_gno rfl rfl rfl rfl ?_
                                  refine y_gno rfl rfl rfl rfl ?_
                                  refine y_k (.bool true : Value) w_80 rfl rfl rfl (by kernel_rfl) ?_
                                  refine y_nil ?_
                                  refine y_then (hK95 _ _ ?_)
                                  refine y_cond_t rfl rfl ?_
                                  refine y_seq fun K103 hK103 => ?_
                                  refine y_region ?_
                                  refine y_k (.bool false : Value) w_80 rfl rfl rfl (by kernel_rfl) ?_
                                  refine y_nil ?_
                                  refine y_then (hK103 _ _ ?_)
                                  refine y_ret ?_
                                  repeat (first | refine e_then_r ?_ | refine e_block_r ?_)
                                  exact (hQ0 _ _ _ (res1 (v := (.bool false : Value)) rfl rfl rfl) ⟨_, rfl, h⟩).1
                                · replace h := h.2 (of_decide_eq_false hb102)
                                  refine y_frame (upd_id (i := 229) (v := .bool false) rfl (congrArg Value.bool hb102)) ?_
                                  refine y_gyes rfl rfl rfl ?_
                                  refine y_k (.int .i64 t203_76 : Value) w_80 rfl rfl rfl (by kernel_rfl) ?_
                                  refine y_gyes rfl rfl rfl ?_
                                  refine y_k (.slice b3_4.a b3_4.n b3_4.c : Value) w_80 rfl rfl rfl (by kernel_rfl) ?_
                                  refine y_gyes rfl rfl rfl ?_
                                  refine y_k (.int .i64 ((b3_4.n : Int)) : Value) w_80 rfl rfl rfl (by kernel_rfl) ?_
                                  refine y_gyes rfl rfl rfl ?_
                                  refine y_k (.bool (decide (t203_76 > ((b3_4.n : Int)))) : Value) w_80 rfl rfl rfl (by kernel_rfl) ?_
                                  refine y_k (.bool (decide (t203_76 > ((b3_4.n : Int)))) : Value) w_80 rfl rfl rfl (by kernel_rfl) ?_
                                  refine y_k (.bool (decide (t203_76 > ((b3_4.n : Int)))) : Value) w_80 rfl rfl rfl (by kernel_rfl) ?_
                                  refine y_fork (decide (t203_76 > ((b3_4.n : Int)))) (fun hb104 => ?_) (fun hb104 => ?_)
                                  · replace h := h.1 (of_decide_eq_true hb104)
                                    refine y_frame (upd_id (i := 235) (v := .bool true) rfl (congrArg Value.bool hb104)) ?_
                                    refine y_gno rfl rfl rfl rfl ?_
                                    refine y_gno rfl rfl rfl rfl ?_
                                    refine y_gno rfl rfl rfl rfl ?_
                                    refine y_gno rfl rfl rfl rfl ?_
                                    refine y_k (.bool true : Value) w_80 rfl rfl rfl (by kernel_rfl) ?_
                                    refine y_nil ?_
                                    refine y_then (hK95 _ _ ?_)
                                    refine y_cond_t rfl rfl ?_
                                    refine y_seq fun K105 hK105 => ?_
                                    refine y_region ?_
                                    refine y_k (.bool false : Value) w_80 rfl rfl rfl (by kernel_rfl) ?_
                                    refine y_nil ?_
                                    refine y_then (hK105 _ _ ?_)
                                    refine y_ret ?_
                                    repeat (first | refine e_then_r ?_ | refine e_block_r ?_)
                                    exact (hQ0 _ _ _ (res1 (v := (.bool false : Value)) rfl rfl rfl) ⟨_, rfl, h⟩).1
                                  · replace h := h.2 (of_decide_eq_false hb104)
                                    refine y_frame (upd_id (i := 235) (v := .bool false) rfl (congrArg Value.bool hb104)) ?_
                                    refine y_gyes rfl rfl rfl ?_
                                    refine y_k (.int .i64 t210_79 : Value) w_80 rfl rfl rfl (by kernel_rfl) ?_
                                    refine y_gyes rfl rfl rfl ?_
                                    refine y_k (.slice b3_4.a b3_4.n b3_4.c : Value) w_80 rfl rfl rfl (by kernel_rfl) ?_
                                    refine y_gyes rfl rfl rfl ?_
                                    refine y_k (.int .i64 ((b3_4.n : Int)) : Value) w_80 rfl rfl rfl (by kernel_rfl) ?_
                                    refine y_gyes rfl rfl rfl ?_
                                    refine y_k (.bool (decide (t210_79 > ((b3_4.n : Int)))) : Value) w_80 rfl rfl rfl (by kernel_rfl) ?_
                                    refine y_k (.bool (decide (t210_79 > ((b3_4.n : Int)))) : Value) w_80 rfl rfl rfl (by kernel_rfl) ?_
                                    refine y_nil ?_
                                    refine y_then (hK95 _ _ ?_)
                                    refine y_cond (decide (t210_79 > ((b3_4.n : Int)))) rfl rfl (fun hb154 => ?_) (fun hb154 => ?_)
                                    · replace h := h.1 (of_decide_eq_true hb154)
                                      refine y_seq fun K106 hK106 => ?_
                                      refine y_region ?_
                                      refine y_k (.bool false : Value) w_80 rfl rfl rfl (by kernel_rfl) ?_
                                      refine y_nil ?_
                                      refine y_then (hK106 _ _ ?_)
                                      refine y_ret ?_
                                      repeat (first | refine e_then_r ?_ | refine e_block_r ?_)
                                      exact (hQ0 _ _ _ (res1 (v := (.bool false : Value)) rfl rfl rfl) ⟨_, rfl, h⟩).1
                                    · replace h := h.2 (of_decide_eq_false hb154)
                                      refine y_skip ?_
                                      refine y_then (hK94 _ _ ?_)
                                      refine y_seq fun K107 hK107 => ?_
                                      have hjK107 : ∀ (f : Fr) (t8_82 : Bool) (w_83 : World), f 8 = (.bool t8_82 : Value) → F5_j3 K t8_82 w_83 → WK K107 281 f w_83 := by
                                        intro f t8_82 w_83 e8 h
                                        refine y_atf (upd_id rfl e8) ?_
                                        clear e8
                                        unfold F5_j3 at h
                                        refine hK107 _ _ ?_
                                        refine y_ret ?_
                                        repeat (first | refine e_then_r ?_ | refine e_block_r ?_)
                                        exact (hQ0 _ _ _ (res1 (v := (.bool t8_82 : Value)) rfl rfl rfl) ⟨_, rfl, h⟩).1
                                      obtain ⟨w_81, hwd108⟩ : ∃ wd : World, wd = w_80.drew := ⟨_, rfl⟩
                                      replace h := h _ hwd108
                                      refine t_region (wd := w_81) [] (by kernel_rfl) hwd108 SF_nil fun Q108 hE108 hp108 hS => ?_
                                      clear hwd108
                                      refine t_kw hp108 hS 0 (.int .i64 t198_73 : Value) rfl (wanted_none rfl) rfl rfl (by kernel_rfl) (fun _ _ => by kernel_rfl) fun hS => ?_
                                      refine t_kw hp108 hS 1 (.bool ((t198_73 == 0)) : Value) rfl (wanted_none rfl) rfl rfl (by kernel_rfl) (fun _ _ => by kernel_rfl) fun hS => ?_
                                      refine t_kw hp108 hS 2 (.bool ((t198_73 == 0)) : Value) rfl (wanted_none rfl) rfl rfl (by kernel_rfl) (fun _ _ => by kernel_rfl) fun hS => ?_
                                      refine t_fork ((t198_73 == 0)) (fun hb109 => ?_) (fun hb109 => ?_)
                                      · replace h := h.1 (eq_of_beq hb109)
                                        refine t_frame (upd_id (i := 243) (v := .bool true) rfl (congrArg Value.bool hb109)) ?_
                                        refine t_no hp108 hS 3 rfl rfl rfl rfl (.inl rfl) rfl rfl (by kernel_rfl) fun hS => ?_
                                        refine t_no hp108 hS 6 rfl rfl rfl rfl (.inl rfl) rfl rfl (by kernel_rfl) fun hS => ?_
                                        refine t_no hp108 hS 7 rfl rfl rfl rfl (.inl rfl) rfl rfl (by kernel_rfl) fun hS => ?_
                                        refine t_no hp108 hS 8 rfl rfl rfl rfl (.inl rfl) rfl rfl (by kernel_rfl) fun hS => ?_
                                        refine t_no hp108 hS 9 rfl rfl rfl rfl (.inl rfl) rfl rfl (by kernel_rfl) fun hS => ?_
                                        refine t_skip 4 (by kernel_rfl) rfl rfl rfl rfl (.inl rfl) rfl rfl SF_nil fun hS => ?_
                                        refine t_no hp108 hS 5 rfl rfl rfl rfl (.inl rfl) rfl rfl (by kernel_rfl) fun hS => ?_
                                        refine t_no hp108 hS 10 rfl rfl rfl rfl (.inl rfl) rfl rfl (by kernel_rfl) fun hS => ?_
                                        refine t_kw hp108 hS 11 (.bool true : Value) rfl (wanted_none rfl) rfl rfl (by kernel_rfl) (fun _ _ => by kernel_rfl) fun hS => ?_
                                        refine t_kw hp108 hS 12 (.bool true : Value) rfl (wanted_none rfl) rfl rfl (by kernel_rfl) (fun _ _ => by kernel_rfl) fun hS => ?_
                                        refine t_kw hp108 hS 13 (.int .i64 t203_76 : Value) rfl (wanted_some rfl rfl rfl rfl) rfl rfl (by kernel_rfl) (fun _ _ => by kernel_rfl) fun hS => ?_
                                        refine t_kw hp108 hS 14 (.bool ((t203_76 == 0)) : Value) rfl (wanted_some rfl rfl rfl rfl) rfl rfl (by kernel_rfl) (fun _ _ => by kernel_rfl) fun hS => ?_
                                        refine t_kw hp108 hS 15 (.bool ((t203_76 == 0)) : Value) rfl (wanted_some rfl rfl rfl rfl) rfl rfl (by kernel_rfl) (fun _ _ => by kernel_rfl) fun hS => ?_
                                        refine t_fork ((t203_76 == 0)) (fun hb110 => ?_) (fun hb110 => ?_)
                                        · replace h := h.1 (eq_of_beq hb110)
                                          refine t_frame (upd_id (i := 256) (v := .bool true) rfl (congrArg Value.bool hb110)) ?_
                                          refine t_no hp108 hS 16 rfl rfl rfl rfl (.inl rfl) rfl rfl (by kernel_rfl) fun hS => ?_
                                          refine t_no hp108 hS 19 rfl rfl rfl rfl (.inl rfl) rfl rfl (by kernel_rfl) fun hS => ?_
                                          refine t_no hp108 hS 20 rfl rfl rfl rfl (.inl rfl) rfl rfl (by kernel_rfl) fun hS => ?_
                                          refine t_no hp108 hS 21 rfl rfl rfl rfl (.inl rfl) rfl rfl (by kernel_rfl) fun hS => ?_
                                          refine t_no hp108 hS 22 rfl rfl rfl rfl (.inl rfl) rfl rfl (by kernel_rfl) fun hS => ?_
                                          refine t_skip 17 (by kernel_rfl) rfl rfl rfl rfl (.inl rfl) rfl rfl SF_nil fun hS => ?_
                                          refine t_no hp108 hS 18 rfl rfl rfl rfl (.inl rfl) rfl rfl (by kernel_rfl) fun hS => ?_
                                          refine t_no hp108 hS 23 rfl rfl rfl rfl (.inl rfl) rfl rfl (by kernel_rfl) fun hS => ?_
                                          refine t_kw hp108 hS 24 (.bool true : Value) rfl (wanted_some rfl rfl rfl rfl) rfl rfl (by kernel_rfl) (fun _ _ => by kernel_rfl) fun hS => ?_
                                          refine t_kw hp108 hS 25 (.bool true : Value) rfl (wanted_none rfl) rfl rfl (by kernel_rfl) (fun _ _ => by kernel_rfl) fun hS => ?_
                                          refine t_kw hp108 hS 26 (.bool true : Value) rfl (wanted_none rfl) rfl rfl (by kernel_rfl) (fun _ _ => by kernel_rfl) fun hS => ?_
                                          refine t_kw hp108 hS 27 (.int .i64 t210_79 : Value) rfl (wanted_some rfl rfl rfl rfl) rfl rfl (by kernel_rfl) (fun _ _ => by kernel_rfl) fun hS => ?_
                                          refine t_kw hp108 hS 28 (.bool ((t210_79 == 0)) : Value) rfl (wanted_some rfl rfl rfl rfl) rfl rfl (by kernel_rfl) (fun _ _ => by kernel_rfl) fun hS => ?_
                                          refine t_kw hp108 hS 29 (.bool ((t210_79 == 0)) : Value) rfl (wanted_some rfl rfl rfl rfl) rfl rfl (by kernel_rfl) (fun _ _ => by kernel_rfl) fun hS => ?_
                                          refine t_fork ((t210_79 == 0)) (fun hb111 => ?_) (fun hb111 => ?_)
                                          · replace h := h.1 (eq_of_beq hb111)
                                            refine t_frame (upd_id (i := 270) (v := .bool true) rfl (congrArg Value.bool hb111)) ?_
                                            refine t_no hp108 hS 30 rfl rfl rfl rfl (.inl rfl) rfl rfl (by kernel_rfl) fun hS => ?_
                                            refine t_no hp108 hS 33 rfl rfl rfl rfl (.inl rfl) rfl rfl (by kernel_rfl) fun hS => ?_
                                            refine t_no hp108 hS 34 rfl rfl rfl rfl (.inl rfl) rfl rfl (by kernel_rfl) fun hS => ?_
                                            refine t_no hp108 hS 35 rfl rfl rfl rfl (.inl rfl) rfl rfl (by kernel_rfl) fun hS => ?_
                                            refine t_no hp108 hS 36 rfl rfl rfl rfl (.inl rfl) rfl rfl (by kernel_rfl) fun hS => ?_
                                            refine t_skip 31 (by kernel_rfl) rfl rfl rfl rfl (.inl rfl) rfl rfl SF_nil fun hS => ?_
                                            refine t_no hp108 hS 32 rfl rfl rfl rfl (.inl rfl) rfl rfl (by kernel_rfl) fun hS => ?_
                                            refine t_no hp108 hS 37 rfl rfl rfl rfl (.inl rfl) rfl rfl (by kernel_rfl) fun hS => ?_
                                            refine t_kw hp108 hS 38 (.bool true : Value) rfl (wanted_some rfl rfl rfl rfl) rfl rfl (by kernel_rfl) (fun _ _ => by kernel_rfl) fun hS => ?_
                                            refine t_kw hp108 hS 39 (.bool true : Value) rfl (wanted_none rfl) rfl rfl (by kernel_rfl) (fun _ _ => by kernel_rfl) fun hS => ?_
                                            refine t_kw hp108 hS 40 (.bool true : Value) rfl (wanted_none rfl) rfl rfl (by kernel_rfl) (fun _ _ => by kernel_rfl) fun hS => ?_
                                            refine t_done (by kernel_rfl) (hE108 _ _ ?_)
                                            exact y_then (hjK107 _ true w_81 rfl h)
                                          · replace h := h.2 (beq_eq_false_iff_ne.mp hb111)
                                            refine t_frame (upd_id (i := 270) (v := .bool false) rfl (congrArg Value.bool hb111)) ?_
                                            refine t_kw hp108 hS 30 (.slice t210_78.a t210_78.n t210_78.c : Value) rfl (wanted_some rfl rfl rfl rfl) rfl rfl (by kernel_rfl) (fun _ _ => by kernel_rfl) fun hS => ?_
                                            refine t_kw hp108 hS 33 (.slice b3_4.a b3_4.n b3_4.c : Value) rfl (wanted_some rfl rfl rfl rfl) rfl rfl (by kernel_rfl) (fun _ _ => by kernel_rfl) fun hS => ?_
                                            refine t_kw hp108 hS 34 (.int .i64 t210_79 : Value) rfl (wanted_some rfl rfl rfl rfl) rfl rfl (by kernel_rfl) (fun _ _ => by kernel_rfl) fun hS => ?_
                                            obtain ⟨t276_84, hx112, h⟩ := h
                                            refine t_add ⟨35, [], fun wx => (Instr.sliceAt 22 (.slice b3_4.a b3_4.n b3_4.c : Value) none (some (.int .i64 t210_79 : Value)) none).run Try.prog wx = .ok (.slice t276_84.a t276_84.n t276_84.c : Value) wx⟩ ?_
                                            replace hS := SF_on (x := ⟨35, [], fun wx => (Instr.sliceAt 22 (.slice b3_4.a b3_4.n b3_4.c : Value) none (some (.int .i64 t210_79 : Value)) none).run Try.prog wx = .ok (.slice t276_84.a t276_84.n t276_84.c : Value) wx⟩) hx112 hS
                                            refine t_v (s := Instr.sliceAt 22 (.slice b3_4.a b3_4.n b3_4.c : Value) none (some (.int .i64 t210_79 : Value)) none) hp108 hS 35 (.slice t276_84.a t276_84.n t276_84.c : Value) rfl (wanted_some rfl rfl rfl rfl) rfl rfl (by kernel_rfl) (by kernel_rfl) (fun _ hw => (Sw.fact (List.Mem.head _) rfl hw)) fun hS => ?_
                                            obtain ⟨t277_85, hx113, h⟩ := h
                                            refine t_add ⟨36, [], fun wx => (convert 22 9 (.slice t276_84.a t276_84.n t276_84.c : Value)).run Try.prog wx = .ok (.string t277_85 : Value) wx⟩ ?_
                                            replace hS := SF_on (x := ⟨36, [], fun wx => (convert 22 9 (.slice t276_84.a t276_84.n t276_84.c : Value)).run Try.prog wx = .ok (.string t277_85 : Value) wx⟩) hx113 hS
                                            refine t_v (s := convert 22 9 (.slice t276_84.a t276_84.n t276_84.c : Value)) hp108 hS 36 (.string t277_85 : Value) rfl (wanted_some rfl rfl rfl rfl) rfl rfl (by kernel_rfl) (by kernel_rfl) (fun _ hw => (Sw.fact (List.Mem.head _) rfl hw)) fun hS => ?_
                                            refine t_call 31 (by kernel_rfl) rfl (wanted_some rfl rfl rfl rfl) rfl rfl (by kernel_rfl) (h.mono ?_)
                                            rintro _ w_87 ⟨t272_86, rfl, hx114, hx115, h⟩
                                            refine ⟨_, rfl, (SF_on hx114 (SF_on hx115 SF_nil)), fun hS => ?_⟩
                                            obtain ⟨t273_88, hx116, h⟩ := h
                                            refine t_add ⟨32, [], fun wx => (convert 22 9 (.slice t272_86.a t272_86.n t272_86.c : Value)).run Try.prog wx = .ok (.string t273_88 : Value) wx⟩ ?_
                                            replace hS := SF_on (x := ⟨32, [], fun wx => (convert 22 9 (.slice t272_86.a t272_86.n t272_86.c : Value)).run Try.prog wx = .ok (.string t273_88 : Value) wx⟩) hx116 hS
                                            refine t_v (s := convert 22 9 (.slice t272_86.a t272_86.n t272_86.c : Value)) hp108 hS 32 (.string t273_88 : Value) rfl (wanted_some rfl rfl rfl rfl) rfl rfl (by kernel_rfl) (by kernel_rfl) (fun _ hw => (Sw.fact (List.Mem.head _) rfl hw)) fun hS => ?_
                                            refine t_kw hp108 hS 37 (.bool ((t273_88.toList == t277_85.toList)) : Value) rfl (wanted_some rfl rfl rfl rfl) rfl rfl (by kernel_rfl) (fun _ _ => by kernel_rfl) fun hS => ?_
                                            refine t_kw hp108 hS 38 (.bool ((t273_88.toList == t277_85.toList)) : Value) rfl (wanted_some rfl rfl rfl rfl) rfl rfl (by kernel_rfl) (fun _ _ => by kernel_rfl) fun hS => ?_
                                            refine t_kw hp108 hS 39 (.bool ((t273_88.toList == t277_85.toList)) : Value) rfl (wanted_none rfl) rfl rfl (by kernel_rfl) (fun _ _ => by kernel_rfl) fun hS => ?_
                                            refine t_kw hp108 hS 40 (.bool ((t273_88.toList == t277_85.toList)) : Value) rfl (wanted_none rfl) rfl rfl (by kernel_rfl) (fun _ _ => by kernel_rfl) fun hS => ?_
                                            refine t_done (by kernel_rfl) (hE108 _ _ ?_)
                                            exact y_then (hjK107 _ ((t273_88.toList == t277_85.toList)) w_87 rfl h)
                                        · replace h := h.2 (beq_eq_false_iff_ne.mp hb110)
                                          refine t_frame (upd_id (i := 256) (v := .bool false) rfl (congrArg Value.bool hb110)) ?_
                                          refine t_kw hp108 hS 16 (.int .i64 t203_75 : Value) rfl (wanted_some rfl rfl rfl rfl) rfl rfl (by kernel_rfl) (fun _ _ => by kernel_rfl) fun hS => ?_
                                          refine t_kw hp108 hS 19 (.slice b3_4.a b3_4.n b3_4.c : Value) rfl (wanted_some rfl rfl rfl rfl) rfl rfl (by kernel_rfl) (fun _ _ => by kernel_rfl) fun hS => ?_
                                          refine t_kw hp108 hS 20 (.int .i64 t203_76 : Value) rfl (wanted_some rfl rfl rfl rfl) rfl rfl (by kernel_rfl) (fun _ _ => by kernel_rfl) fun hS => ?_
                                          obtain ⟨t262_89, hx117, h⟩ := h
                                          refine t_add ⟨21, [31], fun wx => (Instr.sliceAt 22 (.slice b3_4.a b3_4.n b3_4.c : Value) none (some (.int .i64 t203_76 : Value)) none).run Try.prog wx = .ok (.slice t262_89.a t262_89.n t262_89.c : Value) wx⟩ ?_
                                          replace hS := SF_on (x := ⟨21, [31], fun wx => (Instr.sliceAt 22 (.slice b3_4.a b3_4.n b3_4.c : Value) none (some (.int .i64 t203_76 : Value)) none).run Try.prog wx = .ok (.slice t262_89.a t262_89.n t262_89.c : Value) wx⟩) hx117 hS
                                          refine t_v (s := Instr.sliceAt 22 (.slice b3_4.a b3_4.n b3_4.c : Value) none (some (.int .i64 t203_76 : Value)) none) hp108 hS 21 (.slice t262_89.a t262_89.n t262_89.c : Value) rfl (wanted_some rfl rfl rfl rfl) rfl rfl (by kernel_rfl) (by kernel_rfl) (fun _ hw => (Sw.fact (List.Mem.head _) rfl hw)) fun hS => ?_
                                          obtain ⟨t263_90, hx118, h⟩ := h
                                          refine t_add ⟨22, [31], fun wx => (convert 22 9 (.slice t262_89.a t262_89.n t262_89.c : Value)).run Try.prog wx = .ok (.string t263_90 : Value) wx⟩ ?_
                                          replace hS := SF_on (x := ⟨22, [31], fun wx => (convert 22 9 (.slice t262_89.a t262_89.n t262_89.c : Value)).run Try.prog wx = .ok (.string t263_90 : Value) wx⟩) hx118 hS
                                          refine t_v (s := convert 22 9 (.slice t262_89.a t262_89.n t262_89.c : Value)) hp108 hS 22 (.string t263_90 : Value) rfl (wanted_some rfl rfl rfl rfl) rfl rfl (by kernel_rfl) (by kernel_rfl) (fun _ hw => (Sw.fact (List.Mem.head _) rfl hw)) fun hS => ?_
                                          refine t_call 17 (by kernel_rfl) rfl (wanted_some rfl rfl rfl rfl) rfl rfl (by kernel_rfl) (h.mono ?_)
                                          rintro _ w_92 ⟨t258_91, rfl, hx119, hx120, h⟩
                                          refine ⟨_, rfl, (SF_on hx119 (SF_on hx120 SF_nil)), fun hS => ?_⟩
                                          obtain ⟨t259_93, hx121, h⟩ := h
                                          refine t_add ⟨18, [31], fun wx => (convert 22 9 (.slice t258_91.a t258_91.n t258_91.c : Value)).run Try.prog wx = .ok (.string t259_93 : Value) wx⟩ ?_
                                          replace hS := SF_on (x := ⟨18, [31], fun wx => (convert 22 9 (.slice t258_91.a t258_91.n t258_91.c : Value)).run Try.prog wx = .ok (.string t259_93 : Value) wx⟩) hx121 hS
                                          refine t_v (s := convert 22 9 (.slice t258_91.a t258_91.n t258_91.c : Value)) hp108 hS 18 (.string t259_93 : Value) rfl (wanted_some rfl rfl rfl rfl) rfl rfl (by kernel_rfl) (by kernel_rfl) (fun _ hw => (Sw.fact (List.Mem.head _) rfl hw)) fun hS => ?_
                                          refine t_kw hp108 hS 23 (.bool ((t259_93.toList == t263_90.toList)) : Value) rfl (wanted_some rfl rfl rfl rfl) rfl rfl (by kernel_rfl) (fun _ _ => by kernel_rfl) fun hS => ?_
                                          refine t_kw hp108 hS 24 (.bool ((t259_93.toList == t263_90.toList)) : Value) rfl (wanted_some rfl rfl rfl rfl) rfl rfl (by kernel_rfl) (fun _ _ => by kernel_rfl) fun hS => ?_
                                          refine t_kw hp108 hS 25 (.bool ((t259_93.toList == t263_90.toList)) : Value) rfl (wanted_none rfl) rfl rfl (by kernel_rfl) (fun _ _ => by kernel_rfl) fun hS => ?_
                                          refine t_kw hp108 hS 26 (.bool ((t259_93.toList == t263_90.toList)) : Value) rfl (wanted_none rfl) rfl rfl (by kernel_rfl) (fun _ _ => by kernel_rfl) fun hS => ?_
                                          refine t_fork ((t259_93.toList == t263_90.toList)) (fun hb122 => ?_) (fun hb122 => ?_)
                                          · replace h := h.1 (eq_of_beq hb122)
                                            refine t_frame (upd_id (i := 267) (v := .bool true) rfl (congrArg Value.bool hb122)) ?_
                                            refine t_kw hp108 hS 27 (.int .i64 t210_79 : Value) rfl (wanted_some rfl rfl rfl rfl) rfl rfl (by kernel_rfl) (fun _ _ => by kernel_rfl) fun hS => ?_
                                            refine t_kw hp108 hS 28 (.bool ((t210_79 == 0)) : Value) rfl (wanted_some rfl rfl rfl rfl) rfl rfl (by kernel_rfl) (fun _ _ => by kernel_rfl) fun hS => ?_
                                            refine t_kw hp108 hS 29 (.bool ((t210_79 == 0)) : Value) rfl (wanted_some rfl rfl rfl rfl) rfl rfl (by kernel_rfl) (fun _ _ => by kernel_rfl) fun hS => ?_
                                            refine t_fork ((t210_79 == 0)) (fun hb123 => ?_) (fun hb123 => ?_)
                                            · replace h := h.1 (eq_of_beq hb123)
                                              refine t_frame (upd_id (i := 270) (v := .bool true) rfl (congrArg Value.bool hb123)) ?_
                                              refine t_no hp108 hS 30 rfl rfl rfl rfl (.inl rfl) rfl rfl (by kernel_rfl) fun hS => ?_
                                              refine t_no hp108 hS 33 rfl rfl rfl rfl (.inl rfl) rfl rfl (by kernel_rfl) fun hS => ?_
                                              refine t_no hp108 hS 34 rfl rfl rfl rfl (.inl rfl) rfl rfl (by kernel_rfl) fun hS => ?_
                                              refine t_no hp108 hS 35 rfl rfl rfl rfl (.inl rfl) rfl rfl (by kernel_rfl) fun hS => ?_
                                              refine t_no hp108 hS 36 rfl rfl rfl rfl (.inl rfl) rfl rfl (by kernel_rfl) fun hS => ?_
                                              refine t_skip 31 (by kernel_rfl) rfl rfl rfl rfl (.inl rfl) rfl rfl (SF_off (by kernel_rfl) (by kernel_rfl) (SF_off (by kernel_rfl) (by kernel_rfl) (SF_off (by kernel_rfl) (by kernel_rfl) SF_nil))) fun hS => ?_
                                              refine t_no hp108 hS 32 rfl rfl rfl rfl (.inl rfl) rfl rfl (by kernel_rfl) fun hS => ?_
                                              refine t_no hp108 hS 37 rfl rfl rfl rfl (.inl rfl) rfl rfl (by kernel_rfl) fun hS => ?_
                                              refine t_kw hp108 hS 38 (.bool true : Value) rfl (wanted_some rfl rfl rfl rfl) rfl rfl (by kernel_rfl) (fun _ _ => by kernel_rfl) fun hS => ?_
                                              refine t_kw hp108 hS 39 (.bool true : Value) rfl (wanted_none rfl) rfl rfl (by kernel_rfl) (fun _ _ => by kernel_rfl) fun hS => ?_
                                              refine t_kw hp108 hS 40 (.bool true : Value) rfl (wanted_none rfl) rfl rfl (by kernel_rfl) (fun _ _ => by kernel_rfl) fun hS => ?_
                                              refine t_done (by kernel_rfl) (hE108 _ _ ?_)
                                              exact y_then (hjK107 _ true w_92 rfl h)
                                            · replace h := h.2 (beq_eq_false_iff_ne.mp hb123)
                                              refine t_frame (upd_id (i := 270) (v := .bool false) rfl (congrArg Value.bool hb123)) ?_
                                              refine t_kw hp108 hS 30 (.slice t210_78.a t210_78.n t210_78.c : Value) rfl (wanted_some rfl rfl rfl rfl) rfl rfl (by kernel_rfl) (fun _ _ => by kernel_rfl) fun hS => ?_
                                              refine t_kw hp108 hS 33 (.slice b3_4.a b3_4.n b3_4.c : Value) rfl (wanted_some rfl rfl rfl rfl) rfl rfl (by kernel_rfl) (fun _ _ => by kernel_rfl) fun hS => ?_
                                              refine t_kw hp108 hS 34 (.int .i64 t210_79 : Value) rfl (wanted_some rfl rfl rfl rfl) rfl rfl (by kernel_rfl) (fun _ _ => by kernel_rfl) fun hS => ?_
                                              obtain ⟨t276_94, hx124, h⟩ := h
                                              refine t_add ⟨35, [], fun wx => (Instr.sliceAt 22 (.slice b3_4.a b3_4.n b3_4.c : Value) none (some (.int .i64 t210_79 : Value)) none).run Try.prog wx = .ok (.slice t276_94.a t276_94.n t276_94.c : Value) wx⟩ ?_
                                              replace hS := SF_on (x := ⟨35, [], fun wx => (Instr.sliceAt 22 (.slice b3_4.a b3_4.n b3_4.c : Value) none (some (.int .i64 t210_79 : Value)) none).run Try.prog wx = .ok (.slice t276_94.a t276_94.n t276_94.c : Value) wx⟩) hx124 hS
                                              refine t_v (s := Instr.sliceAt 22 (.slice b3_4.a b3_4.n b3_4.c : Value) none (some (.int .i64 t210_79 : Value)) none) hp108 hS 35 (.slice t276_94.a t276_94.n t276_94.c : Value) rfl (wanted_some rfl rfl rfl rfl) rfl rfl (by kernel_rfl) (by kernel_rfl) (fun _ hw => (Sw.fact (List.Mem.head _) rfl hw)) fun hS => ?_
                                              obtain ⟨t277_95, hx125, h⟩ := h
                                              refine t_add ⟨36, [], fun wx => (convert 22 9 (.slice t276_94.a t276_94.n t276_94.c : Value)).run Try.prog wx = .ok (.string t277_95 : Value) wx⟩ ?_
                                              replace hS := SF_on (x := ⟨36, [], fun wx => (convert 22 9 (.slice t276_94.a t276_94.n t276_94.c : Value)).run Try.prog wx = .ok (.string t277_95 : Value) wx⟩) hx125 hS
                                              refine t_v (s := convert 22 9 (.slice t276_94.a t276_94.n t276_94.c : Value)) hp108 hS 36 (.string t277_95 : Value) rfl (wanted_some rfl rfl rfl rfl) rfl rfl (by kernel_rfl) (by kernel_rfl) (fun _ hw => (Sw.fact (List.Mem.head _) rfl hw)) fun hS => ?_
                                              refine t_call 31 (by kernel_rfl) rfl (wanted_some rfl rfl rfl rfl) rfl rfl (by kernel_rfl) (h.mono ?_)
                                              rintro _ w_97 ⟨t272_96, rfl, hx126, hx127, h⟩
                                              refine ⟨_, rfl, (SF_on hx126 (SF_on hx127 (SF_off (by kernel_rfl) (by kernel_rfl) (SF_off (by kernel_rfl) (by kernel_rfl) (SF_off (by kernel_rfl) (by kernel_rfl) SF_nil))))), fun hS => ?_⟩
                                              obtain ⟨t273_98, hx128, h⟩ := h
                                              refine t_add ⟨32, [], fun wx => (convert 22 9 (.slice t272_96.a t272_96.n t272_96.c : Value)).run Try.prog wx = .ok (.string t273_98 : Value) wx⟩ ?_
                                              replace hS := SF_on (x := ⟨32, [], fun wx => (convert 22 9 (.slice t272_96.a t272_96.n t272_96.c : Value)).run Try.prog wx = .ok (.string t273_98 : Value) wx⟩) hx128 hS
                                              refine t_v (s := convert 22 9 (.slice t272_96.a t272_96.n t272_96.c : Value)) hp108 hS 32 (.string t273_98 : Value) rfl (wanted_some rfl rfl rfl rfl) rfl rfl (by kernel_rfl) (by kernel_rfl) (fun _ hw => (Sw.fact (List.Mem.head _) rfl hw)) fun hS => ?_
                                              refine t_kw hp108 hS 37 (.bool ((t273_98.toList == t277_95.toList)) : Value) rfl (wanted_some rfl rfl rfl rfl) rfl rfl (by kernel_rfl) (fun _ _ => by kernel_rfl) fun hS => ?_
                                              refine t_kw hp108 hS 38 (.bool ((t273_98.toList == t277_95.toList)) : Value) rfl (wanted_some rfl rfl rfl rfl) rfl rfl (by kernel_rfl) (fun _ _ => by kernel_rfl) fun hS => ?_
                                              refine t_kw hp108 hS 39 (.bool ((t273_98.toList == t277_95.toList)) : Value) rfl (wanted_none rfl) rfl rfl (by kernel_rfl) (fun _ _ => by kernel_rfl) fun hS => ?_
                                              refine t_kw hp108 hS 40 (.bool ((t273_98.toList == t277_95.toList)) : Value) rfl (wanted_none rfl) rfl rfl (by kernel_rfl) (fun _ _ => by kernel_rfl) fun hS => ?_
                                              refine t_done (by kernel_rfl) (hE108 _ _ ?_)
                                              exact y_then (hjK107 _ ((t273_98.toList == t277_95.toList)) w_97 rfl h)
                                          · replace h := h.2 (beq_eq_false_iff_ne.mp hb122)
                                            refine t_frame (upd_id (i := 267) (v := .bool false) rfl (congrArg Value.bool hb122)) ?_
                                            refine t_no hp108 hS 27 rfl rfl rfl rfl (.inl rfl) rfl rfl (by kernel_rfl) fun hS => ?_
                                            refine t_no hp108 hS 28 rfl rfl rfl rfl (.inl rfl) rfl rfl (by kernel_rfl) fun hS => ?_
                                            refine t_no hp108 hS 29 rfl rfl rfl rfl (.inl rfl) rfl rfl (by kernel_rfl) fun hS => ?_
                                            refine t_no hp108 hS 30 rfl rfl rfl rfl (.inr rfl) rfl rfl (by kernel_rfl) fun hS => ?_
                                            refine t_no hp108 hS 33 rfl rfl rfl rfl (.inr rfl) rfl rfl (by kernel_rfl) fun hS => ?_
                                            refine t_no hp108 hS 34 rfl rfl rfl rfl (.inr rfl) rfl rfl (by kernel_rfl) fun hS => ?_
                                            refine t_no hp108 hS 35 rfl rfl rfl rfl (.inr rfl) rfl rfl (by kernel_rfl) fun hS => ?_
                                            refine t_no hp108 hS 36 rfl rfl rfl rfl (.inr rfl) rfl rfl (by kernel_rfl) fun hS => ?_
                                            refine t_skip 31 (by kernel_rfl) rfl rfl rfl rfl (.inr rfl) rfl rfl (SF_off (by kernel_rfl) (by kernel_rfl) (SF_off (by kernel_rfl) (by kernel_rfl) (SF_off (by kernel_rfl) (by kernel_rfl) SF_nil))) fun hS => ?_
                                            refine t_no hp108 hS 32 rfl rfl rfl rfl (.inr rfl) rfl rfl (by kernel_rfl) fun hS => ?_
                                            refine t_no hp108 hS 37 rfl rfl rfl rfl (.inr rfl) rfl rfl (by kernel_rfl) fun hS => ?_
                                            refine t_no hp108 hS 38 rfl rfl rfl rfl (.inl rfl) rfl rfl (by kernel_rfl) fun hS => ?_
                                            refine t_kw hp108 hS 39 (.bool false : Value) rfl (wanted_none rfl) rfl rfl (by kernel_rfl) (fun _ _ => by kernel_rfl) fun hS => ?_
                                            refine t_kw hp108 hS 40 (.bool false : Value) rfl (wanted_none rfl) rfl rfl (by kernel_rfl) (fun _ _ => by kernel_rfl) fun hS => ?_
                                            refine t_done (by kernel_rfl) (hE108 _ _ ?_)
                                            exact y_then (hjK107 _ false w_92 rfl h)
                                      · replace h := h.2 (beq_eq_false_iff_ne.mp hb109)
                                        refine t_frame (upd_id (i := 243) (v := .bool false) rfl (congrArg Value.bool hb109)) ?_
                                        refine t_kw hp108 hS 3 (.int .u64 t198_72 : Value) rfl (wanted_some rfl rfl rfl rfl) rfl rfl (by kernel_rfl) (fun _ _ => by kernel_rfl) fun hS => ?_
                                        refine t_kw hp108 hS 6 (.slice b3_4.a b3_4.n b3_4.c : Value) rfl (wanted_some rfl rfl rfl rfl) rfl rfl (by kernel_rfl) (fun _ _ => by kernel_rfl) fun hS => ?_
                                        refine t_kw hp108 hS 7 (.int .i64 t198_73 : Value) rfl (wanted_some rfl rfl rfl rfl) rfl rfl (by kernel_rfl) (fun _ _ => by kernel_rfl) fun hS => ?_
                                        obtain ⟨t249_99, hx129, h⟩ := h
                                        refine t_add ⟨8, [17, 31], fun wx => (Instr.sliceAt 22 (.slice b3_4.a b3_4.n b3_4.c : Value) none (some (.int .i64 t198_73 : Value)) none).run Try.prog wx = .ok (.slice t249_99.a t249_99.n t249_99.c : Value) wx⟩ ?_
                                        replace hS := SF_on (x := ⟨8, [17, 31], fun wx => (Instr.sliceAt 22 (.slice b3_4.a b3_4.n b3_4.c : Value) none (some (.int .i64 t198_73 : Value)) none).run Try.prog wx = .ok (.slice t249_99.a t249_99.n t249_99.c : Value) wx⟩) hx129 hS
                                        refine t_v (s := Instr.sliceAt 22 (.slice b3_4.a b3_4.n b3_4.c : Value) none (some (.int .i64 t198_73 : Value)) none) hp108 hS 8 (.slice t249_99.a t249_99.n t249_99.c : Value) rfl (wanted_some rfl rfl rfl rfl) rfl rfl (by kernel_rfl) (by kernel_rfl) (fun _ hw => (Sw.fact (List.Mem.head _) rfl hw)) fun hS => ?_
                                        obtain ⟨t250_100, hx130, h⟩ := h
                                        refine t_add ⟨9, [17, 31], fun wx => (convert 22 9 (.slice t249_99.a t249_99.n t249_99.c : Value)).run Try.prog wx = .ok (.string t250_100 : Value) wx⟩ ?_
                                        replace hS := SF_on (x := ⟨9, [17, 31], fun wx => (convert 22 9 (.slice t249_99.a t249_99.n t249_99.c : Value)).run Try.prog wx = .ok (.string t250_100 : Value) wx⟩) hx130 hS
                                        refine t_v (s := convert 22 9 (.slice t249_99.a t249_99.n t249_99.c : Value)) hp108 hS 9 (.string t250_100 : Value) rfl (wanted_some rfl rfl rfl rfl) rfl rfl (by kernel_rfl) (by kernel_rfl) (fun _ hw => (Sw.fact (List.Mem.head _) rfl hw)) fun hS => ?_
                                        refine t_call 4 (by kernel_rfl) rfl (wanted_some rfl rfl rfl rfl) rfl rfl (by kernel_rfl) (h.mono ?_)
                                        rintro _ w_102 ⟨t245_101, rfl, hx131, hx132, h⟩
                                        refine ⟨_, rfl, (SF_on hx131 (SF_on hx132 SF_nil)), fun hS => ?_⟩
                                        obtain ⟨t246_103, hx133, h⟩ := h
                                        refine t_add ⟨5, [17, 31], fun wx => (convert 22 9 (.slice t245_101.a t245_101.n t245_101.c : Value)).run Try.prog wx = .ok (.string t246_103 : Value) wx⟩ ?_
                                        replace hS := SF_on (x := ⟨5, [17, 31], fun wx => (convert 22 9 (.slice t245_101.a t245_101.n t245_101.c : Value)).run Try.prog wx = .ok (.string t246_103 : Value) wx⟩) hx133 hS
                                        refine t_v (s := convert 22 9 (.slice t245_101.a t245_101.n t245_101.c : Value)) hp108 hS 5 (.string t246_103 : Value) rfl (wanted_some rfl rfl rfl rfl) rfl rfl (by kernel_rfl) (by kernel_rfl) (fun _ hw => (Sw.fact (List.Mem.head _) rfl hw)) fun hS => ?_
                                        refine t_kw hp108 hS 10 (.bool ((t246_103.toList == t250_100.toList)) : Value) rfl (wanted_some rfl rfl rfl rfl) rfl rfl (by kernel_rfl) (fun _ _ => by kernel_rfl) fun hS => ?_
                                        refine t_kw hp108 hS 11 (.bool ((t246_103.toList == t250_100.toList)) : Value) rfl (wanted_none rfl) rfl rfl (by kernel_rfl) (fun _ _ => by kernel_rfl) fun hS => ?_
                                        refine t_kw hp108 hS 12 (.bool ((t246_103.toList == t250_100.toList)) : Value) rfl (wanted_none rfl) rfl rfl (by kernel_rfl) (fun _ _ => by kernel_rfl) fun hS => ?_
                                        refine t_fork ((t246_103.toList == t250_100.toList)) (fun hb134 => ?_) (fun hb134 => ?_)
                                        · replace h := h.1 (eq_of_beq hb134)
                                          refine t_frame (upd_id (i := 253) (v := .bool true) rfl (congrArg Value.bool hb134)) ?_
                                          refine t_kw hp108 hS 13 (.int .i64 t203_76 : Value) rfl (wanted_some rfl rfl rfl rfl) rfl rfl (by kernel_rfl) (fun _ _ => by kernel_rfl) fun hS => ?_
                                          refine t_kw hp108 hS 14 (.bool ((t203_76 == 0)) : Value) rfl (wanted_some rfl rfl rfl rfl) rfl rfl (by kernel_rfl) (fun _ _ => by kernel_rfl) fun hS => ?_
                                          refine t_kw hp108 hS 15 (.bool ((t203_76 == 0)) : Value) rfl (wanted_some rfl rfl rfl rfl) rfl rfl (by kernel_rfl) (fun _ _ => by kernel_rfl) fun hS => ?_
                                          refine t_fork ((t203_76 == 0)) (fun hb135 => ?_) (fun hb135 => ?_)
                                          · replace h := h.1 (eq_of_beq hb135)
                                            refine t_frame (upd_id (i := 256) (v := .bool true) rfl (congrArg Value.bool hb135)) ?_
                                            refine t_no hp108 hS 16 rfl rfl rfl rfl (.inl rfl) rfl rfl (by kernel_rfl) fun hS => ?_
                                            refine t_no hp108 hS 19 rfl rfl rfl rfl (.inl rfl) rfl rfl (by kernel_rfl) fun hS => ?_
                                            refine t_no hp108 hS 20 rfl rfl rfl rfl (.inl rfl) rfl rfl (by kernel_rfl) fun hS => ?_
                                            refine t_no hp108 hS 21 rfl rfl rfl rfl (.inl rfl) rfl rfl (by kernel_rfl) fun hS => ?_
                                            refine t_no hp108 hS 22 rfl rfl rfl rfl (.inl rfl) rfl rfl (by kernel_rfl) fun hS => ?_
                                            refine t_skip 17 (by kernel_rfl) rfl rfl rfl rfl (.inl rfl) rfl rfl (SF_off (by kernel_rfl) (by kernel_rfl) (SF_off (by kernel_rfl) (by kernel_rfl) (SF_off (by kernel_rfl) (by kernel_rfl) SF_nil))) fun hS => ?_
                                            refine t_no hp108 hS 18 rfl rfl rfl rfl (.inl rfl) rfl rfl (by kernel_rfl) fun hS => ?_
                                            refine t_no hp108 hS 23 rfl rfl rfl rfl (.inl rfl) rfl rfl (by kernel_rfl) fun hS => ?_
                                            refine t_kw hp108 hS 24 (.bool true : Value) rfl (wanted_some rfl rfl rfl rfl) rfl rfl (by kernel_rfl) (fun _ _ => by kernel_rfl) fun hS => ?_
                                            refine t_kw hp108 hS 25 (.bool true : Value) rfl (wanted_none rfl) rfl rfl (by kernel_rfl) (fun _ _ => by kernel_rfl) fun hS => ?_
                                            refine t_kw hp108 hS 26 (.bool true : Value) rfl (wanted_none rfl) rfl rfl (by kernel_rfl) (fun _ _ => by kernel_rfl) fun hS => ?_
                                            refine t_kw hp108 hS 27 (.int .i64 t210_79 : Value) rfl (wanted_some rfl rfl rfl rfl) rfl rfl (by kernel_rfl) (fun _ _ => by kernel_rfl) fun hS => ?_
                                            refine t_kw hp108 hS 28 (.bool ((t210_79 == 0)) : Value) rfl (wanted_some rfl rfl rfl rfl) rfl rfl (by kernel_rfl) (fun _ _ => by kernel_rfl) fun hS => ?_
                                            refine t_kw hp108 hS 29 (.bool ((t210_79 == 0)) : Value) rfl (wanted_some rfl rfl rfl rfl) rfl rfl (by kernel_rfl) (fun _ _ => by kernel_rfl) fun hS => ?_
                                            refine t_fork ((t210_79 == 0)) (fun hb136 => ?_) (fun hb136 => ?_)
                                            · replace h := h.1 (eq_of_beq hb136)
                                              refine t_frame (upd_id (i := 270) (v := .bool true) rfl (congrArg Value.bool hb136)) ?_
                                              refine t_no hp108 hS 30 rfl rfl rfl rfl (.inl rfl) rfl rfl (by kernel_rfl) fun hS => ?_
                                              refine t_no hp108 hS 33 rfl rfl rfl rfl (.inl rfl) rfl rfl (by kernel_rfl) fun hS => ?_
                                              refine t_no hp108 hS 34 rfl rfl rfl rfl (.inl rfl) rfl rfl (by kernel_rfl) fun hS => ?_
                                              refine t_no hp108 hS 35 rfl rfl rfl rfl (.inl rfl) rfl rfl (by kernel_rfl) fun hS => ?_
                                              refine t_no hp108 hS 36 rfl rfl rfl rfl (.inl rfl) rfl rfl (by kernel_rfl) fun hS => ?_
                                              refine t_skip 31 (by kernel_rfl) rfl rfl rfl rfl (.inl rfl) rfl rfl (SF_off (by kernel_rfl) (by kernel_rfl) (SF_off (by kernel_rfl) (by kernel_rfl) (SF_off (by kernel_rfl) (by kernel_rfl) SF_nil))) fun hS => ?_
                                              refine t_no hp108 hS 32 rfl rfl rfl rfl (.inl rfl) rfl rfl (by kernel_rfl) fun hS => ?_
                                              refine t_no hp108 hS 37 rfl rfl rfl rfl (.inl rfl) rfl rfl (by kernel_rfl) fun hS => ?_
                                              refine t_kw hp108 hS 38 (.bool true : Value) rfl (wanted_some rfl rfl rfl rfl) rfl rfl (by kernel_rfl) (fun _ _ => by kernel_rfl) fun hS => ?_
                                              refine t_kw hp108 hS 39 (.bool true : Value) rfl (wanted_none rfl) rfl rfl (by kernel_rfl) (fun _ _ => by kernel_rfl) fun hS => ?_
                                              refine t_kw hp108 hS 40 (.bool true : Value) rfl (wanted_none rfl) rfl rfl (by kernel_rfl) (fun _ _ => by kernel_rfl) fun hS => ?_
                                              refine t_done (by kernel_rfl) (hE108 _ _ ?_)
                                              exact y_then (hjK107 _ true w_102 rfl h)
                                            · replace h := h.2 (beq_eq_false_iff_ne.mp hb136)
                                              refine t_frame (upd_id (i := 270) (v := .bool false) rfl (congrArg Value.bool hb136)) ?_
                                              refine t_kw hp108 hS 30 (.slice t210_78.a t210_78.n t210_78.c : Value) rfl (wanted_some rfl rfl rfl rfl) rfl rfl (by kernel_rfl) (fun _ _ => by kernel_rfl) fun hS => ?_
                                              refine t_kw hp108 hS 33 (.slice b3_4.a b3_4.n b3_4.c : Value) rfl (wanted_some rfl rfl rfl rfl) rfl rfl (by kernel_rfl) (fun _ _ => by kernel_rfl) fun hS => ?_
                                              refine t_kw hp108 hS 34 (.int .i64 t210_79 : Value) rfl (wanted_some rfl rfl rfl rfl) rfl rfl (by kernel_rfl) (fun _ _ => by kernel_rfl) fun hS => ?_
                                              obtain ⟨t276_104, hx137, h⟩ := h
                                              refine t_add ⟨35, [], fun wx => (Instr.sliceAt 22 (.slice b3_4.a b3_4.n b3_4.c : Value) none (some (.int .i64 t210_79 : Value)) none).run Try.prog wx = .ok (.slice t276_104.a t276_104.n t276_104.c : Value) wx⟩ ?_
                                              replace hS := SF_on (x := ⟨35, [], fun wx => (Instr.sliceAt 22 (.slice b3_4.a b3_4.n b3_4.c : Value) none (some (.int .i64 t210_79 : Value)) none).run Try.prog wx = .ok (.slice t276_104.a t276_104.n t276_104.c : Value) wx⟩) hx137 hS
                                              refine t_v (s := Instr.sliceAt 22 (.slice b3_4.a b3_4.n b3_4.c : Value) none (some (.int .i64 t210_79 : Value)) none) hp108 hS 35 (.slice t276_104.a t276_104.n t276_104.c : Value) rfl (wanted_some rfl rfl rfl rfl) rfl rfl (by kernel_rfl) (by kernel_rfl) (fun _ hw => (Sw.fact (List.Mem.head _) rfl hw)) fun hS => ?_
                                              obtain ⟨t277_105, hx138, h⟩ := h
                                              refine t_add ⟨36, [], fun wx => (convert 22 9 (.slice t276_104.a t276_104.n t276_104.c : Value)).run Try.prog wx = .ok (.string t277_105 : Value) wx⟩ ?_
                                              replace hS := SF_on (x := ⟨36, [], fun wx => (convert 22 9 (.slice t276_104.a t276_104.n t276_104.c : Value)).run Try.prog wx = .ok (.string t277_105 : Value) wx⟩) hx138 hS
                                              refine t_v (s := convert 22 9 (.slice t276_104.a t276_104.n t276_104.c : Value)) hp108 hS 36 (.string t277_105 : Value) rfl (wanted_some rfl rfl rfl rfl) rfl rfl (by kernel_rfl) (by kernel_rfl) (fun _ hw => (Sw.fact (List.Mem.head _) rfl hw)) fun hS => ?_
                                              refine t_call 31 (by kernel_rfl) rfl (wanted_some rfl rfl rfl rfl) rfl rfl (by kernel_rfl) (h.mono ?_)
                                              rintro _ w_107 ⟨t272_106, rfl, hx139, hx140, h⟩
                                              refine ⟨_, rfl, (SF_on hx139 (SF_on hx140 (SF_off (by kernel_rfl) (by kernel_rfl) (SF_off (by kernel_rfl) (by kernel_rfl) (SF_off (by kernel_rfl) (by kernel_rfl) SF_nil))))), fun hS => ?_⟩
                                              obtain ⟨t273_108, hx141, h⟩ := h
                                              refine t_add ⟨32, [], fun wx => (convert 22 9 (.slice t272_106.a t272_106.n t272_106.c : Value)).run Try.prog wx = .ok (.string t273_108 : Value) wx⟩ ?_
                                              replace hS := SF_on (x := ⟨32, [], fun wx => (convert 22 9 (.slice t272_106.a t272_106.n t272_106.c : Value)).run Try.prog wx = .ok (.string t273_108 : Value) wx⟩) hx141 hS
                                              refine t_v (s := convert 22 9 (.slice t272_106.a t272_106.n t272_106.c : Value)) hp108 hS 32 (.string t273_108 : Value) rfl (wanted_some rfl rfl rfl rfl) rfl rfl (by kernel_rfl) (by kernel_rfl) (fun _ hw => (Sw.fact (List.Mem.head _) rfl hw)) fun hS => ?_
                                              refine t_kw hp108 hS 37 (.bool ((t273_108.toList == t277_105.toList)) : Value) rfl (wanted_some rfl rfl rfl rfl) rfl rfl (by kernel_rfl) (fun _ _ => by kernel_rfl) fun hS => ?_
                                              refine t_kw hp108 hS 38 (.bool ((t273_108.toList == t277_105.toList)) : Value) rfl (wanted_some rfl rfl rfl rfl) rfl rfl (by kernel_rfl) (fun _ _ => by kernel_rfl) fun hS => ?_
                                              refine t_kw hp108 hS 39 (.bool ((t273_108.toList == t277_105.toList)) : Value) rfl (wanted_none rfl) rfl rfl (by kernel_rfl) (fun _ _ => by kernel_rfl) fun hS => ?_
                                              refine t_kw hp108 hS 40 (.bool ((t273_108.toList == t277_105.toList)) : Value) rfl (wanted_none rfl) rfl rfl (by kernel_rfl) (fun _ _ => by kernel_rfl) fun hS => ?_
                                              refine t_done (by kernel_rfl) (hE108 _ _ ?_)
                                              exact y_then (hjK107 _ ((t273_108.toList == t277_105.toList)) w_107 rfl h)
                                          · replace h := h.2 (beq_eq_false_iff_ne.mp hb135)
                                            refine t_frame (upd_id (i := 256) (v := .bool false) rfl (congrArg Value.bool hb135)) ?_
                                            refine t_kw hp108 hS 16 (.int .i64 t203_75 : Value) rfl (wanted_some rfl rfl rfl rfl) rfl rfl (by kernel_rfl) (fun _ _ => by kernel_rfl) fun hS => ?_
                                            refine t_kw hp108 hS 19 (.slice b3_4.a b3_4.n b3_4.c : Value) rfl (wanted_some rfl rfl rfl rfl) rfl rfl (by kernel_rfl) (fun _ _ => by kernel_rfl) fun hS => ?_
                                            refine t_kw hp108 hS 20 (.int .i64 t203_76 : Value) rfl (wanted_some rfl rfl rfl rfl) rfl rfl (by kernel_rfl) (fun _ _ => by kernel_rfl) fun hS => ?_
                                            obtain ⟨t262_109, hx142, h⟩ := h
                                            refine t_add ⟨21, [31], fun wx => (Instr.sliceAt 22 (.slice b3_4.a b3_4.n b3_4.c : Value) none (some (.int .i64 t203_76 : Value)) none).run Try.prog wx = .ok (.slice t262_109.a t262_109.n t262_109.c : Value) wx⟩ ?_
                                            replace hS := SF_on (x := ⟨21, [31], fun wx => (Instr.sliceAt 22 (.slice b3_4.a b3_4.n b3_4.c : Value) none (some (.int .i64 t203_76 : Value)) none).run Try.prog wx = .ok (.slice t262_109.a t262_109.n t262_109.c : Value) wx⟩) hx142 hS
                                            refine t_v (s := Instr.sliceAt 22 (.slice b3_4.a b3_4.n b3_4.c : Value) none (some (.int .i64 t203_76 : Value)) none) hp108 hS 21 (.slice t262_109.a t262_109.n t262_109.c : Value) rfl (wanted_some rfl rfl rfl rfl) rfl rfl (by kernel_rfl) (by kernel_rfl) (fun _ hw => (Sw.fact (List.Mem.head _) rfl hw)) fun hS => ?_
                                            obtain ⟨t263_110, hx143, h⟩ := h
                                            refine t_add ⟨22, [31], fun wx => (convert 22 9 (.slice t262_109.a t262_109.n t262_109.c : Value)).run Try.prog wx = .ok (.string t263_110 : Value) wx⟩ ?_
                                            replace hS := SF_on (x := ⟨22, [31], fun wx => (convert 22 9 (.slice t262_109.a t262_109.n t262_109.c : Value)).run Try.prog wx = .ok (.string t263_110 : Value) wx⟩) hx143 hS
                                            refine t_v (s := convert 22 9 (.slice t262_109.a t262_109.n t262_109.c : Value)) hp108 hS 22 (.string t263_110 : Value) rfl (wanted_some rfl rfl rfl rfl) rfl rfl (by kernel_rfl) (by kernel_rfl) (fun _ hw => (Sw.fact (List.Mem.head _) rfl hw)) fun hS => ?_
                                            refine t_call 17 (by kernel_rfl) rfl (wanted_some rfl rfl rfl rfl) rfl rfl (by kernel_rfl) (h.mono ?_)
                                            rintro _ w_112 ⟨t258_111, rfl, hx144, hx145, h⟩
                                            refine ⟨_, rfl, (SF_on hx144 (SF_on hx145 (SF_off (by kernel_rfl) (by kernel_rfl) (SF_off (by kernel_rfl) (by kernel_rfl) (SF_off (by kernel_rfl) (by kernel_rfl) SF_nil))))), fun hS => ?_⟩
                                            obtain ⟨t259_113, hx146, h⟩ := h
                                            refine t_add ⟨18, [31], fun wx => (convert 22 9 (.slice t258_111.a t258_111.n t258_111.c : Value)).run Try.prog wx = .ok (.string t259_113 : Value) wx⟩ ?_
                                            replace hS := SF_on (x := ⟨18, [31], fun wx => (convert 22 9 (.slice t258_111.a t258_111.n t258_111.c : Value)).run Try.prog wx = .ok (.string t259_113 : Value) wx⟩) hx146 hS
                                            refine t_v (s := convert 22 9 (.slice t258_111.a t258_111.n t258_111.c : Value)) hp108 hS 18 (.string t259_113 : Value) rfl (wanted_some rfl rfl rfl rfl) rfl rfl (by kernel_rfl) (by kernel_rfl) (fun _ hw => (Sw.fact (List.Mem.head _) rfl hw)) fun hS => ?_
                                            refine t_kw hp108 hS 23 (.bool ((t259_113.toList == t263_110.toList)) : Value) rfl (wanted_some rfl rfl rfl rfl) rfl rfl (by kernel_rfl) (fun _ _ => by kernel_rfl) fun hS => ?_
                                            refine t_kw hp108 hS 24 (.bool ((t259_113.toList == t263_110.toList)) : Value) rfl (wanted_some rfl rfl rfl rfl) rfl rfl (by kernel_rfl) (fun _ _ => by kernel_rfl) fun hS => ?_
                                            refine t_kw hp108 hS 25 (.bool ((t259_113.toList == t263_110.toList)) : Value) rfl (wanted_none rfl) rfl rfl (by kernel_rfl) (fun _ _ => by kernel_rfl) fun hS => ?_
                                            refine t_kw hp108 hS 26 (.bool ((t259_113.toList == t263_110.toList)) : Value) rfl (wanted_none rfl) rfl rfl (by kernel_rfl) (fun _ _ => by kernel_rfl) fun hS => ?_
                                            refine t_fork ((t259_113.toList == t263_110.toList)) (fun hb147 => ?_) (fun hb147 => ?_)
                                            · replace h := h.1 (eq_of_beq hb147)
                                              refine t_frame (upd_id (i := 267) (v := .bool true) rfl (congrArg Value.bool hb147)) ?_
                                              refine t_kw hp108 hS 27 (.int .i64 t210_79 : Value) rfl (wanted_some rfl rfl rfl rfl) rfl rfl (by kernel_rfl) (fun _ _ => by kernel_rfl) fun hS => ?_
                                              refine t_kw hp108 hS 28 (.bool ((t210_79 == 0)) : Value) rfl (wanted_some rfl rfl rfl rfl) rfl rfl (by kernel_rfl) (fun _ _ => by kernel_rfl) fun hS => ?_
                                              refine t_kw hp108 hS 29 (.bool ((t210_79 == 0)) : Value) rfl (wanted_some rfl rfl rfl rfl) rfl rfl (by kernel_rfl) (fun _ _ => by kernel_rfl) fun hS => ?_
                                              refine t_fork ((t210_79 == 0)) (fun hb148 => ?_) (fun hb148 => ?_)
                                              · replace h := h.1 (eq_of_beq hb148)
                                                refine t_frame (upd_id (i := 270) (v := .bool true) rfl (congrArg Value.bool hb148)) ?_
                                                refine t_no hp108 hS 30 rfl rfl rfl rfl (.inl rfl) rfl rfl (by kernel_rfl) fun hS => ?_
                                                refine t_no hp108 hS 33 rfl rfl rfl rfl (.inl rfl) rfl rfl (by kernel_rfl) fun hS => ?_
                                                refine t_no hp108 hS 34 rfl rfl rfl rfl (.inl rfl) rfl rfl (by kernel_rfl) fun hS => ?_
                                                refine t_no hp108 hS 35 rfl rfl rfl rfl (.inl rfl) rfl rfl (by kernel_rfl) fun hS => ?_
                                                refine t_no hp108 hS 36 rfl rfl rfl rfl (.inl rfl) rfl rfl (by kernel_rfl) fun hS => ?_
                                                refine t_skip 31 (by kernel_rfl) rfl rfl rfl rfl (.inl rfl) rfl rfl (SF_off (by kernel_rfl) (by kernel_rfl) (SF_off (by kernel_rfl) (by kernel_rfl) (SF_off (by kernel_rfl) (by kernel_rfl) (SF_off (by kernel_rfl) (by kernel_rfl) (SF_off (by kernel_rfl) (by kernel_rfl) (SF_off (by kernel_rfl) (by kernel_rfl) SF_nil)))))) fun hS => ?_
                                                refine t_no hp108 hS 32 rfl rfl rfl rfl (.inl rfl) rfl rfl (by kernel_rfl) fun hS => ?_
                                                refine t_no hp108 hS 37 rfl rfl rfl rfl (.inl rfl) rfl rfl (by kernel_rfl) fun hS => ?_
                                                refine t_kw hp108 hS 38 (.bool true : Value) rfl (wanted_some rfl rfl rfl rfl) rfl rfl (by kernel_rfl) (fun _ _ => by kernel_rfl) fun hS => ?_
                                                refine t_kw hp108 hS 39 (.bool true : Value) rfl (wanted_none rfl) rfl rfl (by kernel_rfl) (fun _ _ => by kernel_rfl) fun hS => ?_
                                                refine t_kw hp108 hS 40 (.bool true : Value) rfl (wanted_none rfl) rfl rfl (by kernel_rfl) (fun _ _ => by kernel_rfl) fun hS => ?_
                                                refine t_done (by kernel_rfl) (hE108 _ _ ?_)
                                                exact y_then (hjK107 _ true w_112 rfl h)
                                              · replace h := h.2 (beq_eq_false_iff_ne.mp hb148)
                                                refine t_frame (upd_id (i := 270) (v := .bool false) rfl (congrArg Value.bool hb148)) ?_
                                                refine t_kw hp108 hS 30 (.slice t210_78.a t210_78.n t210_78.c : Value) rfl (wanted_some rfl rfl rfl rfl) rfl rfl (by kernel_rfl) (fun _ _ => by kernel_rfl) fun hS => ?_
                                                refine t_kw hp108 hS 33 (.slice b3_4.a b3_4.n b3_4.c : Value) rfl (wanted_some rfl rfl rfl rfl) rfl rfl (by kernel_rfl) (fun _ _ => by kernel_rfl) fun hS => ?_
                                                refine t_kw hp108 hS 34 (.int .i64 t210_79 : Value) rfl (wanted_some rfl rfl rfl rfl) rfl rfl (by kernel_rfl) (fun _ _ => by kernel_rfl) fun hS => ?_
                                                obtain ⟨t276_114, hx149, h⟩ := h
                                                refine t_add ⟨35, [], fun wx => (Instr.sliceAt 22 (.slice b3_4.a b3_4.n b3_4.c : Value) none (some (.int .i64 t210_79 : Value)) none).run Try.prog wx = .ok (.slice t276_114.a t276_114.n t276_114.c : Value) wx⟩ ?_
                                                replace hS := SF_on (x := ⟨35, [], fun wx => (Instr.sliceAt 22 (.slice b3_4.a b3_4.n b3_4.c : Value) none (some (.int .i64 t210_79 : Value)) none).run Try.prog wx = .ok (.slice t276_114.a t276_114.n t276_114.c : Value) wx⟩) hx149 hS
                                                refine t_v (s := Instr.sliceAt 22 (.slice b3_4.a b3_4.n b3_4.c : Value) none (some (.int .i64 t210_79 : Value)) none) hp108 hS 35 (.slice t276_114.a t276_114.n t276_114.c : Value) rfl (wanted_some rfl rfl rfl rfl) rfl rfl (by kernel_rfl) (by kernel_rfl) (fun _ hw => (Sw.fact (List.Mem.head _) rfl hw)) fun hS => ?_
                                                obtain ⟨t277_115, hx150, h⟩ := h
                                                refine t_add ⟨36, [], fun wx => (convert 22 9 (.slice t276_114.a t276_114.n t276_114.c : Value)).run Try.prog wx = .ok (.string t277_115 : Value) wx⟩ ?_
                                                replace hS := SF_on (x := ⟨36, [], fun wx => (convert 22 9 (.slice t276_114.a t276_114.n t276_114.c : Value)).run Try.prog wx = .ok (.string t277_115 : Value) wx⟩) hx150 hS
                                                refine t_v (s := convert 22 9 (.slice t276_114.a t276_114.n t276_114.c : Value)) hp108 hS 36 (.string t277_115 : Value) rfl (wanted_some rfl rfl rfl rfl) rfl rfl (by kernel_rfl) (by kernel_rfl) (fun _ hw => (Sw.fact (List.Mem.head _) rfl hw)) fun hS => ?_
                                                refine t_call 31 (by kernel_rfl) rfl (wanted_some rfl rfl rfl rfl) rfl rfl (by kernel_rfl) (h.mono ?_)
                                                rintro _ w_117 ⟨t272_116, rfl, hx151, hx152, h⟩
                                                refine ⟨_, rfl, (SF_on hx151 (SF_on hx152 (SF_off (by kernel_rfl) (by kernel_rfl) (SF_off (by kernel_rfl) (by kernel_rfl) (SF_off (by kernel_rfl) (by kernel_rfl) (SF_off (by kernel_rfl) (by kernel_rfl) (SF_off (by kernel_rfl) (by kernel_rfl) (SF_off (by kernel_rfl) (by kernel_rfl) SF_nil)))))))), fun hS => ?_⟩
                                                obtain ⟨t273_118, hx153, h⟩ := h
                                                refine t_add ⟨32, [], fun wx => (convert 22 9 (.slice t272_116.a t272_116.n t272_116.c : Value)).run Try.prog wx = .ok (.string t273_118 : Value) wx⟩ ?_
                                                replace hS := SF_on (x := ⟨32, [], fun wx => (convert 22 9 (.slice t272_116.a t272_116.n t272_116.c : Value)).run Try.prog wx = .ok (.string t273_118 : Value) wx⟩) hx153 hS
                                                refine t_v (s := convert 22 9 (.slice t272_116.a t272_116.n t272_116.c : Value)) hp108 hS 32 (.string t273_118 : Value) rfl (wanted_some rfl rfl rfl rfl) rfl rfl (by kernel_rfl) (by kernel_rfl) (fun _ hw => (Sw.fact (List.Mem.head _) rfl hw)) fun hS => ?_
                                                refine t_kw hp108 hS 37 (.bool ((t273_118.toList == t277_115.toList)) : Value) rfl (wanted_some rfl rfl rfl rfl) rfl rfl (by kernel_rfl) (fun _ _ => by kernel_rfl) fun hS => ?_
                                                refine t_kw hp108 hS 38 (.bool ((t273_118.toList == t277_115.toList)) : Value) rfl (wanted_some rfl rfl rfl rfl) rfl rfl (by kernel_rfl) (fun _ _ => by kernel_rfl) fun hS => ?_
                                                refine t_kw hp108 hS 39 (.bool ((t273_118.toList == t277_115.toList)) : Value) rfl (wanted_none rfl) rfl rfl (by kernel_rfl) (fun _ _ => by kernel_rfl) fun hS => ?_
                                                refine t_kw hp108 hS 40 (.bool ((t273_118.toList == t277_115.toList)) : Value) rfl (wanted_none rfl) rfl rfl (by kernel_rfl) (fun _ _ => by kernel_rfl) fun hS => ?_
                                                refine t_done (by kernel_rfl) (hE108 _ _ ?_)
                                                exact y_then (hjK107 _ ((t273_118.toList == t277_115.toList)) w_117 rfl h)
                                            · replace h := h.2 (beq_eq_false_iff_ne.mp hb147)
                                              refine t_frame (upd_id (i := 267) (v := .bool false) rfl (congrArg Value.bool hb147)) ?_
                                              refine t_no hp108 hS 27 rfl rfl rfl rfl (.inl rfl) rfl rfl (by kernel_rfl) fun hS => ?_
                                              refine t_no hp108 hS 28 rfl rfl rfl rfl (.inl rfl) rfl rfl (by kernel_rfl) fun hS => ?_
                                              refine t_no hp108 hS 29 rfl rfl rfl rfl (.inl rfl) rfl rfl (by kernel_rfl) fun hS => ?_
                                              refine t_no hp108 hS 30 rfl rfl rfl rfl (.inr rfl) rfl rfl (by kernel_rfl) fun hS => ?_
                                              refine t_no hp108 hS 33 rfl rfl rfl rfl (.inr rfl) rfl rfl (by kernel_rfl) fun hS => ?_
                                              refine t_no hp108 hS 34 rfl rfl rfl rfl (.inr rfl) rfl rfl (by kernel_rfl) fun hS => ?_
                                              refine t_no hp108 hS 35 rfl rfl rfl rfl (.inr rfl) rfl rfl (by kernel_rfl) fun hS => ?_
                                              refine t_no hp108 hS 36 rfl rfl rfl rfl (.inr rfl) rfl rfl (by kernel_rfl) fun hS => ?_
                                              refine t_skip 31 (by kernel_rfl) rfl rfl rfl rfl (.inr rfl) rfl rfl (SF_off (by kernel_rfl) (by kernel_rfl) (SF_off (by kernel_rfl) (by kernel_rfl) (SF_off (by kernel_rfl) (by kernel_rfl) (SF_off (by kernel_rfl) (by kernel_rfl) (SF_off (by kernel_rfl) (by kernel_rfl) (SF_off (by kernel_rfl) (by kernel_rfl) SF_nil)))))) fun hS => ?_
                                              refine t_no hp108 hS 32 rfl rfl rfl rfl (.inr rfl) rfl rfl (by kernel_rfl) fun hS => ?_
                                              refine t_no hp108 hS 37 rfl rfl rfl rfl (.inr rfl) rfl rfl (by kernel_rfl) fun hS => ?_
                                              refine t_no hp108 hS 38 rfl rfl rfl rfl (.inl rfl) rfl rfl (by kernel_rfl) fun hS => ?_
                                              refine t_kw hp108 hS 39 (.bool false : Value) rfl (wanted_none rfl) rfl rfl (by kernel_rfl) (fun _ _ => by kernel_rfl) fun hS => ?_
                                              refine t_kw hp108 hS 40 (.bool false : Value) rfl (wanted_none rfl) rfl rfl (by kernel_rfl) (fun _ _ => by kernel_rfl) fun hS => ?_
                                              refine t_done (by kernel_rfl) (hE108 _ _ ?_)
                                              exact y_then (hjK107 _ false w_112 rfl h)
                                        · replace h := h.2 (beq_eq_false_iff_ne.mp hb134)
                                          refine t_frame (upd_id (i := 253) (v := .bool false) rfl (congrArg Value.bool hb134)) ?_
                                          refine t_no hp108 hS 13 rfl rfl rfl rfl (.inl rfl) rfl rfl (by kernel_rfl) fun hS => ?_
                                          refine t_no hp108 hS 14 rfl rfl rfl rfl (.inl rfl) rfl rfl (by kernel_rfl) fun hS => ?_
                                          refine t_no hp108 hS 15 rfl rfl rfl rfl (.inl rfl) rfl rfl (by kernel_rfl) fun hS => ?_
                                          refine t_no hp108 hS 16 rfl rfl rfl rfl (.inr rfl) rfl rfl (by kernel_rfl) fun hS => ?_
                                          refine t_no hp108 hS 19 rfl rfl rfl rfl (.inr rfl) rfl rfl (by kernel_rfl) fun hS => ?_
                                          refine t_no hp108 hS 20 rfl rfl rfl rfl (.inr rfl) rfl rfl (by kernel_rfl) fun hS => ?_
                                          refine t_no hp108 hS 21 rfl rfl rfl rfl (.inr rfl) rfl rfl (by kernel_rfl) fun hS => ?_
                                          refine t_no hp108 hS 22 rfl rfl rfl rfl (.inr rfl) rfl rfl (by kernel_rfl) fun hS => ?_
                                          refine t_skip 17 (by kernel_rfl) rfl rfl rfl rfl (.inr rfl) rfl rfl (SF_off (by kernel_rfl) (by kernel_rfl) (SF_off (by kernel_rfl) (by kernel_rfl) (SF_off (by kernel_rfl) (by kernel_rfl) SF_nil))) fun hS => ?_
                                          refine t_no hp108 hS 18 rfl rfl rfl rfl (.inr rfl) rfl rfl (by kernel_rfl) fun hS => ?_
                                          refine t_no hp108 hS 23 rfl rfl rfl rfl (.inr rfl) rfl rfl (by kernel_rfl) fun hS => ?_
                                          refine t_no hp108 hS 24 rfl rfl rfl rfl (.inl rfl) rfl rfl (by kernel_rfl) fun hS => ?_
                                          refine t_kw hp108 hS 25 (.bool false : Value) rfl (wanted_none rfl) rfl rfl (by kernel_rfl) (fun _ _ => by kernel_rfl) fun hS => ?_
                                          refine t_kw hp108 hS 26 (.bool false : Value) rfl (wanted_none rfl) rfl rfl (by kernel_rfl) (fun _ _ => by kernel_rfl) fun hS => ?_
                                          refine t_no hp108 hS 27 rfl rfl rfl rfl (.inl rfl) rfl rfl (by kernel_rfl) fun hS => ?_
                                          refine t_no hp108 hS 28 rfl rfl rfl rfl (.inl rfl) rfl rfl (by kernel_rfl) fun hS => ?_
                                          refine t_no hp108 hS 29 rfl rfl rfl rfl (.inl rfl) rfl rfl (by kernel_rfl) fun hS => ?_
                                          refine t_no hp108 hS 30 rfl rfl rfl rfl (.inr rfl) rfl rfl (by kernel_rfl) fun hS => ?_
                                          refine t_no hp108 hS 33 rfl rfl rfl rfl (.inr rfl) rfl rfl (by kernel_rfl) fun hS => ?_
                                          refine t_no hp108 hS 34 rfl rfl rfl rfl (.inr rfl) rfl rfl (by kernel_rfl) fun hS => ?_
                                          refine t_no hp108 hS 35 rfl rfl rfl rfl (.inr rfl) rfl rfl (by kernel_rfl) fun hS => ?_
                                          refine t_no hp108 hS 36 rfl rfl rfl rfl (.inr rfl) rfl rfl (by kernel_rfl) fun hS => ?_
                                          refine t_skip 31 (by kernel_rfl) rfl rfl rfl rfl (.inr rfl) rfl rfl (SF_off (by kernel_rfl) (by kernel_rfl) (SF_off (by kernel_rfl) (by kernel_rfl) (SF_off (by kernel_rfl) (by kernel_rfl) SF_nil))) fun hS => ?_
                                          refine t_no hp108 hS 32 rfl rfl rfl rfl (.inr rfl) rfl rfl (by kernel_rfl) fun hS => ?_
                                          refine t_no hp108 hS 37 rfl rfl rfl rfl (.inr rfl) rfl rfl (by kernel_rfl) fun hS => ?_
                                          refine t_no hp108 hS 38 rfl rfl rfl rfl (.inl rfl) rfl rfl (by kernel_rfl) fun hS => ?_
                                          refine t_kw hp108 hS 39 (.bool false : Value) rfl (wanted_none rfl) rfl rfl (by kernel_rfl) (fun _ _ => by kernel_rfl) fun hS => ?_
                                          refine t_kw hp108 hS 40 (.bool false : Value) rfl (wanted_none rfl) rfl rfl (by kernel_rfl) (fun _ _ => by kernel_rfl) fun hS => ?_
                                          refine t_done (by kernel_rfl) (hE108 _ _ ?_)
                                          exact y_then (hjK107 _ false w_102 rfl h)

end Go.Proofs.Ythhcaaellhdkiaa
