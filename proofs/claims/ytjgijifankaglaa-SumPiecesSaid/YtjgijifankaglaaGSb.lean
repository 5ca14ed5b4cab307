/- Printed by gen.py (own program, wip/): for each Go function a predicate transformer and its soundness. -/
import Derived.Test.YtjgijifankaglaaProg
import Derived.Test.YtjgijifankaglaaST
namespace Go.Proofs.Ytjgijifankaglaa
open Go Go.RowKit Go.Proofs.Ytjgijifankaglaa.SX
set_option linter.unusedVariables false

def F79_l4 (K : Int → Int → Int → Int → Int → Int → Int → Int → World → Prop) (w : World) (w_11 : World) (w_27 : World) (next102 : (Int) → World → Prop) : (Int) → World → Prop := fun (t188_81) w_82 =>
  ((t188_81 < 8 →
  ∀ (w_83 : World), w_83 = w_82.drew →
  (0 : Int) ≤ t188_81 ∧ t188_81 < 8 ∧
  ∃ (t193_84 : Int), w_83.cell? ((⟨w.heap.size, 0, none⟩ : Addr).add (Int.toNat t188_81)) = some (.int .u32 t193_84) ∧
  (0 : Int) ≤ t188_81 ∧ t188_81 < 8 ∧
  ∃ (t196_85 : Int), w_83.cell? ((⟨w_27.heap.size, 0, none⟩ : Addr).add (Int.toNat t188_81)) = some (.int .u32 t196_85) ∧
  (0 : Int) ≤ t188_81 ∧ t188_81 < 8 ∧
  HasCell w_83 ((⟨w.heap.size, 0, none⟩ : Addr).add (Int.toNat t188_81)) ∧ ∀ (w_86 : World), w_86 = w_83.setCell ((⟨w.heap.size, 0, none⟩ : Addr).add (Int.toNat t188_81)) (.int .u32 (IntKind.u32.wrap (t193_84 + t196_85)) : Value) → 
  next102 (IntKind.i64.wrap (t188_81 + 1)) w_86) ∧
  (¬ (t188_81 < 8) →
  ∃ (t200_87 : Int), ∃ (t200_88 : Int), ∃ (t200_89 : Int), ∃ (t200_90 : Int), ∃ (t200_91 : Int), ∃ (t200_92 : Int), ∃ (t200_93 : Int), ∃ (t200_94 : Int), CellsAt w_82 (⟨w.heap.size, 0, none⟩ : Addr) 0 [.int .u32 t200_87, .int .u32 t200_88, .int .u32 t200_89, .int .u32 t200_90, .int .u32 t200_91, .int .u32 t200_92, .int .u32 t200_93, .int .u32 t200_94] ∧
  HasCells w_82 (⟨w_11.heap.size, 0, none⟩ : Addr) 0 8 ∧ ∀ (w_95 : World), w_95 = setCells w_82 (⟨w_11.heap.size, 0, none⟩ : Addr) 0 [.int .u32 t200_87, .int .u32 t200_88, .int .u32 t200_89, .int .u32 t200_90, .int .u32 t200_91, .int .u32 t200_92, .int .u32 t200_93, .int .u32 t200_94] →
  ∃ (r0_96 : Int), ∃ (r0_97 : Int), ∃ (r0_98 : Int), ∃ (r0_99 : Int), ∃ (r0_100 : Int), ∃ (r0_101 : Int), ∃ (r0_102 : Int), ∃ (r0_103 : Int), CellsAt w_95 (⟨w_11.heap.size, 0, none⟩ : Addr) 0 [.int .u32 r0_96, .int .u32 r0_97, .int .u32 r0_98, .int .u32 r0_99, .int .u32 r0_100, .int .u32 r0_101, .int .u32 r0_102, .int .u32 r0_103] ∧
  K r0_96 r0_97 r0_98 r0_99 r0_100 r0_101 r0_102 r0_103 w_95))
def F79_l3 (k1_9 : Option Addr) (K : Int → Int → Int → Int → Int → Int → Int → Int → World → Prop) (w : World) (w_11 : World) (w_12 : World) (w_27 : World) (next55 : (Int) → World → Prop) : (Int) → World → Prop := fun (t108_53) w_54 =>
  ((t108_53 < 64 →
  ∃ (t112_55 : Int), w_54.cell? (⟨w_27.heap.size, 0, none⟩ : Addr) = some (.int .u32 t112_55) ∧
  ∃ (t114_56 : Int), w_54.cell? ((⟨w_27.heap.size, 0, none⟩ : Addr).add 1) = some (.int .u32 t114_56) ∧
  ∃ (t116_57 : Int), w_54.cell? ((⟨w_27.heap.size, 0, none⟩ : Addr).add 2) = some (.int .u32 t116_57) ∧
  ∃ (t118_58 : Int), w_54.cell? ((⟨w_27.heap.size, 0, none⟩ : Addr).add 4) = some (.int .u32 t118_58) ∧
  ∃ (t120_59 : Int), w_54.cell? ((⟨w_27.heap.size, 0, none⟩ : Addr).add 5) = some (.int .u32 t120_59) ∧
  ∃ (t122_60 : Int), w_54.cell? ((⟨w_27.heap.size, 0, none⟩ : Addr).add 6) = some (.int .u32 t122_60) ∧
  ∀ (w_61 : World), (∃ m, w_61 = w_54.drewN m) →
  ∀ (w_62 : World), w_62 = w_61.drew →
  ∃ (t124_63 : Int), w_62.cell? ((⟨w_27.heap.size, 0, none⟩ : Addr).add 7) = some (.int .u32 t124_63) ∧
  ∃ (a_64 : Addr), k1_9 = some a_64 ∧
  (0 : Int) ≤ t108_53 ∧ t108_53 < 64 ∧
  ∃ (t147_65 : Int), w_62.cell? (a_64.add (Int.toNat t108_53)) = some (.int .u32 t147_65) ∧
  (0 : Int) ≤ t108_53 ∧ t108_53 < 64 ∧
  ∃ (t151_66 : Int), w_62.cell? ((⟨w_12.heap.size, 0, none⟩ : Addr).add (Int.toNat t108_53)) = some (.int .u32 t151_66) ∧
  Calls Try.prog 99 #[.int .u32 t118_58, .int .i64 6] w_62 fun e w_68 => ∃ (t126_67 : Int), e = .returned (.int .u32 t126_67 : Value) ∧ w_68.cell? ((⟨w_12.heap.size, 0, none⟩ : Addr).add (Int.toNat t108_53)) = some (.int .u32 t151_66) ∧ w_68.cell? (a_64.add (Int.toNat t108_53)) = some (.int .u32 t147_65) ∧ w_68.cell? ((⟨w_27.heap.size, 0, none⟩ : Addr).add 7) = some (.int .u32 t124_63) ∧ 
  Calls Try.prog 99 #[.int .u32 t118_58, .int .i64 11] w_68 fun e w_70 => ∃ (t128_69 : Int), e = .returned (.int .u32 t128_69 : Value) ∧ w_70.cell? ((⟨w_12.heap.size, 0, none⟩ : Addr).add (Int.toNat t108_53)) = some (.int .u32 t151_66) ∧ w_70.cell? (a_64.add (Int.toNat t108_53)) = some (.int .u32 t147_65) ∧ w_70.cell? ((⟨w_27.heap.size, 0, none⟩ : Addr).add 7) = some (.int .u32 t124_63) ∧ 
  Calls Try.prog 99 #[.int .u32 t118_58, .int .i64 25] w_70 fun e w_72 => ∃ (t131_71 : Int), e = .returned (.int .u32 t131_71 : Value) ∧ w_72.cell? ((⟨w_12.heap.size, 0, none⟩ : Addr).add (Int.toNat t108_53)) = some (.int .u32 t151_66) ∧ w_72.cell? (a_64.add (Int.toNat t108_53)) = some (.int .u32 t147_65) ∧ w_72.cell? ((⟨w_27.heap.size, 0, none⟩ : Addr).add 7) = some (.int .u32 t124_63) ∧ 
  Calls Try.prog 99 #[.int .u32 t112_55, .int .i64 2] w_72 fun e w_74 => ∃ (t154_73 : Int), e = .returned (.int .u32 t154_73 : Value) ∧
  Calls Try.prog 99 #[.int .u32 t112_55, .int .i64 13] w_74 fun e w_76 => ∃ (t156_75 : Int), e = .returned (.int .u32 t156_75 : Value) ∧
  Calls Try.prog 99 #[.int .u32 t112_55, .int .i64 22] w_76 fun e w_78 => ∃ (t159_77 : Int), e = .returned (.int .u32 t159_77 : Value) ∧
  ∃ (t180_79 : Int), w_78.cell? ((⟨w_27.heap.size, 0, none⟩ : Addr).add 3) = some (.int .u32 t180_79) ∧
  HasCells w_78 (⟨w_27.heap.size, 0, none⟩ : Addr) 0 8 ∧ ∀ (w_80 : World), w_80 = setCells w_78 (⟨w_27.heap.size, 0, none⟩ : Addr) 0 [.int .u32 (IntKind.u32.wrap ((IntKind.u32.wrap ((IntKind.u32.wrap ((IntKind.u32.wrap ((IntKind.u32.wrap (t124_63 + (ibits .xor .u32 (ibits .xor .u32 t126_67 t128_69) t131_71))) + (ibits .xor .u32 (ibits .and .u32 t118_58 t120_59) (ibits .and .u32 (ibits .xor .u32 4294967295 t118_58) t122_60)))) + t147_65)) + t151_66)) + (IntKind.u32.wrap ((ibits .xor .u32 (ibits .xor .u32 t154_73 t156_75) t159_77) + (ibits .xor .u32 (ibits .xor .u32 (ibits .and .u32 t112_55 t114_56) (ibits .and .u32 t112_55 t116_57)) (ibits .and .u32 t114_56 t116_57)))))), .int .u32 t112_55, .int .u32 t114_56, .int .u32 t116_57, .int .u32 (IntKind.u32.wrap (t180_79 + (IntKind.u32.wrap ((IntKind.u32.wrap ((IntKind.u32.wrap ((IntKind.u32.wrap (t124_63 + (ibits .xor .u32 (ibits .xor .u32 t126_67 t128_69) t131_71))) + (ibits .xor .u32 (ibits .and .u32 t118_58 t120_59) (ibits .and .u32 (ibits .xor .u32 4294967295 t118_58) t122_60)))) + t147_65)) + t151_66)))), .int .u32 t118_58, .int .u32 t120_59, .int .u32 t122_60] →
  next55 (IntKind.i64.wrap (t108_53 + 1)) w_80) ∧
  (¬ (t108_53 < 64) →
  kLoop (F79_l4 K w w_11 w_27) (0) w_54))
def F79_l2 (k1_9 : Option Addr) (K : Int → Int → Int → Int → Int → Int → Int → Int → World → Prop) (w : World) (w_11 : World) (w_12 : World) (next27 : (Int) → World → Prop) : (Int) → World → Prop := fun (i9_26) w_27 =>
  ((i9_26 < 64 →
  (0 : Int) ≤ (IntKind.i64.wrap (i9_26 - 2)) ∧ (IntKind.i64.wrap (i9_26 - 2)) < 64 ∧
  ∃ (t71_28 : Int), w_27.cell? ((⟨w_12.heap.size, 0, none⟩ : Addr).add (Int.toNat (IntKind.i64.wrap (i9_26 - 2)))) = some (.int .u32 t71_28) ∧
  (0 : Int) ≤ (IntKind.i64.wrap (i9_26 - 15)) ∧ (IntKind.i64.wrap (i9_26 - 15)) < 64 ∧
  ∃ (t75_29 : Int), w_27.cell? ((⟨w_12.heap.size, 0, none⟩ : Addr).add (Int.toNat (IntKind.i64.wrap (i9_26 - 15)))) = some (.int .u32 t75_29) ∧
  ∀ (w_30 : World), (∃ m, w_30 = w_27.drewN m) →
  Calls Try.prog 99 #[.int .u32 t71_28, .int .i64 17] w_30 fun e w_32 => ∃ (t77_31 : Int), e = .returned (.int .u32 t77_31 : Value) ∧
  Calls Try.prog 99 #[.int .u32 t71_28, .int .i64 19] w_32 fun e w_34 => ∃ (t79_33 : Int), e = .returned (.int .u32 t79_33 : Value) ∧
  Calls Try.prog 99 #[.int .u32 t75_29, .int .i64 7] w_34 fun e w_36 => ∃ (t85_35 : Int), e = .returned (.int .u32 t85_35 : Value) ∧
  Calls Try.prog 99 #[.int .u32 t75_29, .int .i64 18] w_36 fun e w_38 => ∃ (t87_37 : Int), e = .returned (.int .u32 t87_37 : Value) ∧
  ∀ (w_39 : World), w_39 = w_38.drew →
  (0 : Int) ≤ (IntKind.i64.wrap (i9_26 - 7)) ∧ (IntKind.i64.wrap (i9_26 - 7)) < 64 ∧
  ∃ (t97_40 : Int), w_39.cell? ((⟨w_12.heap.size, 0, none⟩ : Addr).add (Int.toNat (IntKind.i64.wrap (i9_26 - 7)))) = some (.int .u32 t97_40) ∧
  (0 : Int) ≤ (IntKind.i64.wrap (i9_26 - 16)) ∧ (IntKind.i64.wrap (i9_26 - 16)) < 64 ∧
  ∃ (t104_41 : Int), w_39.cell? ((⟨w_12.heap.size, 0, none⟩ : Addr).add (Int.toNat (IntKind.i64.wrap (i9_26 - 16)))) = some (.int .u32 t104_41) ∧
  (0 : Int) ≤ i9_26 ∧ i9_26 < 64 ∧
  HasCell w_39 ((⟨w_12.heap.size, 0, none⟩ : Addr).add (Int.toNat i9_26)) ∧ ∀ (w_42 : World), w_42 = w_39.setCell ((⟨w_12.heap.size, 0, none⟩ : Addr).add (Int.toNat i9_26)) (.int .u32 (IntKind.u32.wrap ((IntKind.u32.wrap ((IntKind.u32.wrap ((ibits .xor .u32 (ibits .xor .u32 t77_31 t79_33) (Int.fdiv t71_28 (2 ^ 10))) + t97_40)) + (ibits .xor .u32 (ibits .xor .u32 t85_35 t87_37) (Int.fdiv t75_29 (2 ^ 3))))) + t104_41)) : Value) → 
  next27 (IntKind.i64.wrap (i9_26 + 1)) w_42) ∧
  (¬ (i9_26 < 64) →
  ∃ (t107_43 : Int), ∃ (t107_44 : Int), ∃ (t107_45 : Int), ∃ (t107_46 : Int), ∃ (t107_47 : Int), ∃ (t107_48 : Int), ∃ (t107_49 : Int), ∃ (t107_50 : Int), CellsAt w_27 (⟨w.heap.size, 0, none⟩ : Addr) 0 [.int .u32 t107_43, .int .u32 t107_44, .int .u32 t107_45, .int .u32 t107_46, .int .u32 t107_47, .int .u32 t107_48, .int .u32 t107_49, .int .u32 t107_50] ∧
  ∀ (w_51 : World), w_51 = w_27.alloc (.cells #[.int .u32 0, .int .u32 0, .int .u32 0, .int .u32 0, .int .u32 0, .int .u32 0, .int .u32 0, .int .u32 0] 94) →
  HasCells w_51 (⟨w_27.heap.size, 0, none⟩ : Addr) 0 8 ∧ ∀ (w_52 : World), w_52 = setCells w_51 (⟨w_27.heap.size, 0, none⟩ : Addr) 0 [.int .u32 t107_43, .int .u32 t107_44, .int .u32 t107_45, .int .u32 t107_46, .int .u32 t107_47, .int .u32 t107_48, .int .u32 t107_49, .int .u32 t107_50] →
  kLoop (F79_l3 k1_9 K w w_11 w_12 w_27) (0) w_52))
def F79_l1 (k1_9 : Option Addr) (b2_10 : Sl) (K : Int → Int → Int → Int → Int → Int → Int → Int → World → Prop) (w : World) (w_11 : World) (w_12 : World) (next6 : (Int) → World → Prop) : (Int) → World → Prop := fun (t25_14) w_15 =>
  ((t25_14 < 16 →
  ∀ (w_16 : World), w_16 = w_15.drew →
  (0 : Int) ≤ (IntKind.i64.wrap (4 * t25_14)) ∧ (IntKind.i64.wrap (4 * t25_14)) < (b2_10.n : Int) ∧ ∃ (a_17 : Addr), b2_10.a = some a_17 ∧
  ∃ (t33_18 : Int), w_16.cell? (a_17.add (Int.toNat (IntKind.i64.wrap (4 * t25_14)))) = some (.int .u8 t33_18) ∧
  (0 : Int) ≤ (IntKind.i64.wrap ((IntKind.i64.wrap (4 * t25_14)) + 1)) ∧ (IntKind.i64.wrap ((IntKind.i64.wrap (4 * t25_14)) + 1)) < (b2_10.n : Int) ∧ ∃ (a_19 : Addr), b2_10.a = some a_19 ∧
  ∃ (t41_20 : Int), w_16.cell? (a_19.add (Int.toNat (IntKind.i64.wrap ((IntKind.i64.wrap (4 * t25_14)) + 1)))) = some (.int .u8 t41_20) ∧
  (0 : Int) ≤ (IntKind.i64.wrap ((IntKind.i64.wrap (4 * t25_14)) + 2)) ∧ (IntKind.i64.wrap ((IntKind.i64.wrap (4 * t25_14)) + 2)) < (b2_10.n : Int) ∧ ∃ (a_21 : Addr), b2_10.a = some a_21 ∧
  ∃ (t50_22 : Int), w_16.cell? (a_21.add (Int.toNat (IntKind.i64.wrap ((IntKind.i64.wrap (4 * t25_14)) + 2)))) = some (.int .u8 t50_22) ∧
  (0 : Int) ≤ (IntKind.i64.wrap ((IntKind.i64.wrap (4 * t25_14)) + 3)) ∧ (IntKind.i64.wrap ((IntKind.i64.wrap (4 * t25_14)) + 3)) < (b2_10.n : Int) ∧ ∃ (a_23 : Addr), b2_10.a = some a_23 ∧
  ∃ (t59_24 : Int), w_16.cell? (a_23.add (Int.toNat (IntKind.i64.wrap ((IntKind.i64.wrap (4 * t25_14)) + 3)))) = some (.int .u8 t59_24) ∧
  (0 : Int) ≤ t25_14 ∧ t25_14 < 64 ∧
  HasCell w_16 ((⟨w_12.heap.size, 0, none⟩ : Addr).add (Int.toNat t25_14)) ∧ ∀ (w_25 : World), w_25 = w_16.setCell ((⟨w_12.heap.size, 0, none⟩ : Addr).add (Int.toNat t25_14)) (.int .u32 (ibits .or .u32 (ibits .or .u32 (ibits .or .u32 (IntKind.u32.wrap ((IntKind.u32.wrap t33_18) * 2 ^ 24)) (IntKind.u32.wrap ((IntKind.u32.wrap t41_20) * 2 ^ 16))) (IntKind.u32.wrap ((IntKind.u32.wrap t50_22) * 2 ^ 8))) (IntKind.u32.wrap t59_24)) : Value) → 
  next6 (IntKind.i64.wrap (t25_14 + 1)) w_25) ∧
  (¬ (t25_14 < 16) →
  kLoop (F79_l2 k1_9 K w w_11 w_12) (16) w_15))
/-- turnkey/sum.round -/
def F79 (s0_1 : Int) (s0_2 : Int) (s0_3 : Int) (s0_4 : Int) (s0_5 : Int) (s0_6 : Int) (s0_7 : Int) (s0_8 : Int) (k1_9 : Option Addr) (b2_10 : Sl) (K : Int → Int → Int → Int → Int → Int → Int → Int → World → Prop) (w : World) : Prop :=
  ∀ (w_11 : World), w_11 = w.alloc (.cells #[.int .u32 s0_1, .int .u32 s0_2, .int .u32 s0_3, .int .u32 s0_4, .int .u32 s0_5, .int .u32 s0_6, .int .u32 s0_7, .int .u32 s0_8] 94) →
  ∀ (w_12 : World), w_12 = w_11.alloc (.cells #[.int .u32 0, .int .u32 0, .int .u32 0, .int .u32 0, .int .u32 0, .int .u32 0, .int .u32 0, .int .u32 0] 94) →
  ∀ (w_13 : World), w_13 = w_12.alloc (.cells #[.int .u32 0, .int .u32 0, .int .u32 0, .int .u32 0, .int .u32 0, .int .u32 0, .int .u32 0, .int .u32 0, .int .u32 0, .int .u32 0, .int .u32 0, .int .u32 0, .int .u32 0, .int .u32 0, .int .u32 0, .int .u32 0, .int .u32 0, .int .u32 0, .int .u32 0, .int .u32 0, .int .u32 0, .int .u32 0, .int .u32 0, .int .u32 0, .int .u32 0, .int .u32 0, .int .u32 0, .int .u32 0, .int .u32 0, .int .u32 0, .int .u32 0, .int .u32 0, .int .u32 0, .int .u32 0, .int .u32 0, .int .u32 0, .int .u32 0, .int .u32 0, .int .u32 0, .int .u32 0, .int .u32 0, .int .u32 0, .int .u32 0, .int .u32 0, .int .u32 0, .int .u32 0, .int .u32 0, .int .u32 0, .int .u32 0, .int .u32 0, .int .u32 0, .int .u32 0, .int .u32 0, .int .u32 0, .int .u32 0, .int .u32 0, .int .u32 0, .int .u32 0, .int .u32 0, .int .u32 0, .int .u32 0, .int .u32 0, .int .u32 0, .int .u32 0] 96) →
  kLoop (F79_l1 k1_9 b2_10 K w w_11 w_12) (0) w_13
set_option maxHeartbeats 4000000 in
set_option maxRecDepth 20000 in
theorem F79_sound (s0_1 : Int) (s0_2 : Int) (s0_3 : Int) (s0_4 : Int) (s0_5 : Int) (s0_6 : Int) (s0_7 : Int) (s0_8 : Int) (k1_9 : Option Addr) (b2_10 : Sl) (K : Int → Int → Int → Int → Int → Int → Int → Int → World → Prop) (w : World) (h : F79 s0_1 s0_2 s0_3 s0_4 s0_5 s0_6 s0_7 s0_8 k1_9 b2_10 K w) :
    Calls Try.prog 79 #[.agg #[.int .u32 s0_1, .int .u32 s0_2, .int .u32 s0_3, .int .u32 s0_4, .int .u32 s0_5, .int .u32 s0_6, .int .u32 s0_7, .int .u32 s0_8], .pointer k1_9, .slice b2_10.a b2_10.n b2_10.c] w (fun e w1 => ∃ (r0 : Int), ∃ (r1 : Int), ∃ (r2 : Int), ∃ (r3 : Int), ∃ (r4 : Int), ∃ (r5 : Int), ∃ (r6 : Int), ∃ (r7 : Int), e = .returned (.agg #[.int .u32 r0, .int .u32 r1, .int .u32 r2, .int .u32 r3, .int .u32 r4, .int .u32 r5, .int .u32 r6, .int .u32 r7] : Value) ∧ K r0 r1 r2 r3 r4 r5 r6 r7 w1) := by
  unfold F79 at h
  refine y_enter (n := 201) (args := [.agg #[.int .u32 s0_1, .int .u32 s0_2, .int .u32 s0_3, .int .u32 s0_4, .int .u32 s0_5, .int .u32 s0_6, .int .u32 s0_7, .int .u32 s0_8], .pointer k1_9, .slice b2_10.a b2_10.n b2_10.c]) Try.func79 rfl rfl rfl fun Q0 hQ0 => ?_
  refine y_seq fun K1 hK1 => ?_
  refine y_region ?_
  refine y_k (.pointer (some (⟨w.heap.size, 0, none⟩ : Addr)) : Value) (w.alloc (.cells #[.int .u32 s0_1, .int .u32 s0_2, .int .u32 s0_3, .int .u32 s0_4, .int .u32 s0_5, .int .u32 s0_6, .int .u32 s0_7, .int .u32 s0_8] 94)) rfl rfl rfl (by kernel_rfl) ?_
  replace h := h _ rfl
  generalize w.alloc (.cells #[.int .u32 s0_1, .int .u32 s0_2, .int .u32 s0_3, .int .u32 s0_4, .int .u32 s0_5, .int .u32 s0_6, .int .u32 s0_7, .int .u32 s0_8] 94) = w_11 at h ⊢
  refine y_k (.pointer (some (⟨w_11.heap.size, 0, none⟩ : Addr)) : Value) (w_11.alloc (.cells #[.int .u32 0, .int .u32 0, .int .u32 0, .int .u32 0, .int .u32 0, .int .u32 0, .int .u32 0, .int .u32 0] 94)) rfl rfl rfl (by kernel_rfl) ?_
  replace h := h _ rfl
  generalize w_11.alloc (.cells #[.int .u32 0, .int .u32 0, .int .u32 0, .int .u32 0, .int .u32 0, .int .u32 0, .int .u32 0, .int .u32 0] 94) = w_12 at h ⊢
  refine y_nil ?_
  refine y_then (hK1 _ _ ?_)
  refine y_seq fun K2 hK2 => ?_
  refine y_region ?_
  refine y_k (.pointer (some (⟨w_12.heap.size, 0, none⟩ : Addr)) : Value) (w_12.alloc (.cells #[.int .u32 0, .int .u32 0, .int .u32 0, .int .u32 0, .int .u32 0, .int .u32 0, .int .u32 0, .int .u32 0, .int .u32 0, .int .u32 0, .int .u32 0, .int .u32 0, .int .u32 0, .int .u32 0, .int .u32 0, .int .u32 0, .int .u32 0, .int .u32 0, .int .u32 0, .int .u32 0, .int .u32 0, .int .u32 0, .int .u32 0, .int .u32 0, .int .u32 0, .int .u32 0, .int .u32 0, .int .u32 0, .int .u32 0, .int .u32 0, .int .u32 0, .int .u32 0, .int .u32 0, .int .u32 0, .int .u32 0, .int .u32 0, .int .u32 0, .int .u32 0, .int .u32 0, .int .u32 0, .int .u32 0, .int .u32 0, .int .u32 0, .int .u32 0, .int .u32 0, .int .u32 0, .int .u32 0, .int .u32 0, .int .u32 0, .int .u32 0, .int .u32 0, .int .u32 0, .int .u32 0, .int .u32 0, .int .u32 0, .int .u32 0, .int .u32 0, .int .u32 0, .int .u32 0, .int .u32 0, .int .u32 0, .int .u32 0, .int .u32 0, .int .u32 0] 96)) rfl rfl rfl (by kernel_rfl) ?_
  replace h := h _ rfl
  generalize w_12.alloc (.cells #[.int .u32 0, .int .u32 0, .int .u32 0, .int .u32 0, .int .u32 0, .int .u32 0, .int .u32 0, .int .u32 0, .int .u32 0, .int .u32 0, .int .u32 0, .int .u32 0, .int .u32 0, .int .u32 0, .int .u32 0, .int .u32 0, .int .u32 0, .int .u32 0, .int .u32 0, .int .u32 0, .int .u32 0, .int .u32 0, .int .u32 0, .int .u32 0, .int .u32 0, .int .u32 0, .int .u32 0, .int .u32 0, .int .u32 0, .int .u32 0, .int .u32 0, .int .u32 0, .int .u32 0, .int .u32 0, .int .u32 0, .int .u32 0, .int .u32 0, .int .u32 0, .int .u32 0, .int .u32 0, .int .u32 0, .int .u32 0, .int .u32 0, .int .u32 0, .int .u32 0, .int .u32 0, .int .u32 0, .int .u32 0, .int .u32 0, .int .u32 0, .int .u32 0, .int .u32 0, .int .u32 0, .int .u32 0, .int .u32 0, .int .u32 0, .int .u32 0, .int .u32 0, .int .u32 0, .int .u32 0, .int .u32 0, .int .u32 0, .int .u32 0, .int .u32 0] 96) = w_13 at h ⊢
  refine y_nil ?_
  refine y_then (hK2 _ _ ?_)
  refine y_seq fun K3 hK3 => ?_
  refine y_seq fun K4 hK4 => ?_
  refine y_region ?_
  refine y_k (.int .i64 0 : Value) w_13 rfl rfl rfl (by kernel_rfl) ?_
  refine y_nil ?_
  refine y_then (hK4 _ _ ?_)
  refine y_block ?_
  refine y_loop (S := Int) (fun s j => match s with | (t25_14) => upd (upd (upd (upd (upd (upd (j) 1 (.pointer k1_9 : Value)) 2 (.slice b2_10.a b2_10.n b2_10.c : Value)) 3 (.pointer (some (⟨w.heap.size, 0, none⟩ : Addr)) : Value)) 6 (.pointer (some (⟨w_11.heap.size, 0, none⟩ : Addr)) : Value)) 7 (.pointer (some (⟨w_12.heap.size, 0, none⟩ : Addr)) : Value)) 25 (.int .i64 t25_14 : Value)) (0) ?_ h ?_
  · dsimp only
    refine upd_id ?_ rfl
    refine upd_id ?_ rfl
    refine upd_id ?_ rfl
    refine upd_id ?_ rfl
    refine upd_id ?_ rfl
    refine upd_id ?_ rfl
    rfl
  rintro KN7 next6 hN7 t25_14 j w_15 h
  unfold F79_l1 at h
  refine y_seq fun K8 hK8 => ?_
  refine y_region ?_
  refine y_k (.bool (decide (t25_14 < 16)) : Value) w_15 rfl rfl rfl (by kernel_rfl) ?_
  refine y_nil ?_
  refine y_then (hK8 _ _ ?_)
  refine y_seq fun K9 hK9 => ?_
  refine y_cond (decide (t25_14 < 16)) rfl rfl (fun hb123 => ?_) (fun hb123 => ?_)
  · replace h := h.1 (of_decide_eq_true hb123)
    refine y_skip ?_
    refine y_then (hK9 _ _ ?_)
    refine y_seq fun K10 hK10 => ?_
    refine y_block ?_
    refine y_seq fun K12 hK12 => ?_
    refine y_region ?_
    refine y_k (.int .i64 t25_14 : Value) w_15 rfl rfl rfl (by kernel_rfl) ?_
    refine y_k (.int .i64 t25_14 : Value) w_15 rfl rfl rfl (by kernel_rfl) ?_
    refine y_nil ?_
    refine y_then (hK12 _ _ ?_)
    obtain ⟨w_16, hwd13⟩ : ∃ wd : World, wd = w_15.drew := ⟨_, rfl⟩
    replace h := h _ hwd13
    refine t_region (wd := w_16) [] (by kernel_rfl) hwd13 SF_nil fun Q13 hE13 hp13 hS => ?_
    clear hwd13
    refine t_kw hp13 hS 0 (.int .i64 t25_14 : Value) rfl (wanted_none rfl) rfl rfl (by kernel_rfl) (fun _ _ => by kernel_rfl) fun hS => ?_
    refine t_kw hp13 hS 1 (.slice b2_10.a b2_10.n b2_10.c : Value) rfl (wanted_none rfl) rfl rfl (by kernel_rfl) (fun _ _ => by kernel_rfl) fun hS => ?_
    refine t_kw hp13 hS 2 (.int .i64 t25_14 : Value) rfl (wanted_none rfl) rfl rfl (by kernel_rfl) (fun _ _ => by kernel_rfl) fun hS => ?_
    refine t_kw hp13 hS 3 (.int .i64 (IntKind.i64.wrap (4 * t25_14)) : Value) rfl (wanted_none rfl) rfl rfl (by kernel_rfl) (fun _ _ => by kernel_rfl) fun hS => ?_
    obtain ⟨hx14a, hx14b, a_17, hx14, h⟩ := h
    refine t_v (s := Instr.indexAt 33 (.slice b2_10.a b2_10.n b2_10.c : Value) (.int .i64 (IntKind.i64.wrap (4 * t25_14)) : Value)) hp13 hS 4 (.pointer (some (a_17.add (Int.toNat (IntKind.i64.wrap (4 * t25_14))))) : Value) rfl (wanted_none rfl) rfl rfl (by kernel_rfl) (by kernel_rfl) (fun _ _ => run_ixs1 (el := 5) (by kernel_rfl) (by kernel_rfl) hx14 hx14a hx14b) fun hS => ?_
    obtain ⟨t33_18, hx15, h⟩ := h
    refine t_add ⟨5, [35], fun wx => wx.cell? (a_17.add (Int.toNat (IntKind.i64.wrap (4 * t25_14)))) = some (.int .u8 t33_18)⟩ ?_
    replace hS := SF_on (x := ⟨5, [35], fun wx => wx.cell? (a_17.add (Int.toNat (IntKind.i64.wrap (4 * t25_14)))) = some (.int .u8 t33_18)⟩) hx15 hS
    refine t_v (s := Instr.loadAt 5 (.pointer (some (a_17.add (Int.toNat (IntKind.i64.wrap (4 * t25_14))))))) hp13 hS 5 (.int .u8 t33_18 : Value) rfl (wanted_none rfl) rfl rfl (by kernel_rfl) (by kernel_rfl) (fun _ hw => rn_load (by kernel_rfl) (Sw.fact (List.Mem.head _) rfl hw)) fun hS => ?_
    refine t_kw hp13 hS 6 (.int .u32 (IntKind.u32.wrap t33_18) : Value) rfl (wanted_none rfl) rfl rfl (by kernel_rfl) (fun _ _ => by kernel_rfl) fun hS => ?_
    refine t_kw hp13 hS 7 (.int .u32 (IntKind.u32.wrap ((IntKind.u32.wrap t33_18) * 2 ^ 24)) : Value) rfl (wanted_none rfl) rfl rfl (by kernel_rfl) (fun _ _ => by kernel_rfl) fun hS => ?_
    refine t_kw hp13 hS 8 (.slice b2_10.a b2_10.n b2_10.c : Value) rfl (wanted_none rfl) rfl rfl (by kernel_rfl) (fun _ _ => by kernel_rfl) fun hS => ?_
    refine t_kw hp13 hS 9 (.int .i64 t25_14 : Value) rfl (wanted_none rfl) rfl rfl (by kernel_rfl) (fun _ _ => by kernel_rfl) fun hS => ?_
    refine t_kw hp13 hS 10 (.int .i64 (IntKind.i64.wrap (4 * t25_14)) : Value) rfl (wanted_none rfl) rfl rfl (by kernel_rfl) (fun _ _ => by kernel_rfl) fun hS => ?_
    refine t_kw hp13 hS 11 (.int .i64 (IntKind.i64.wrap ((IntKind.i64.wrap (4 * t25_14)) + 1)) : Value) rfl (wanted_none rfl) rfl rfl (by kernel_rfl) (fun _ _ => by kernel_rfl) fun hS => ?_
    obtain ⟨hx16a, hx16b, a_19, hx16, h⟩ := h
    refine t_v (s := Instr.indexAt 33 (.slice b2_10.a b2_10.n b2_10.c : Value) (.int .i64 (IntKind.i64.wrap ((IntKind.i64.wrap (4 * t25_14)) + 1)) : Value)) hp13 hS 12 (.pointer (some (a_19.add (Int.toNat (IntKind.i64.wrap ((IntKind.i64.wrap (4 * t25_14)) + 1))))) : Value) rfl (wanted_none rfl) rfl rfl (by kernel_rfl) (by kernel_rfl) (fun _ _ => run_ixs1 (el := 5) (by kernel_rfl) (by kernel_rfl) hx16 hx16a hx16b) fun hS => ?_
    obtain ⟨t41_20, hx17, h⟩ := h
    refine t_add ⟨13, [35], fun wx => wx.cell? (a_19.add (Int.toNat (IntKind.i64.wrap ((IntKind.i64.wrap (4 * t25_14)) + 1)))) = some (.int .u8 t41_20)⟩ ?_
    replace hS := SF_on (x := ⟨13, [35], fun wx => wx.cell? (a_19.add (Int.toNat (IntKind.i64.wrap ((IntKind.i64.wrap (4 * t25_14)) + 1)))) = some (.int .u8 t41_20)⟩) hx17 hS
    refine t_v (s := Instr.loadAt 5 (.pointer (some (a_19.add (Int.toNat (IntKind.i64.wrap ((IntKind.i64.wrap (4 * t25_14)) + 1))))))) hp13 hS 13 (.int .u8 t41_20 : Value) rfl (wanted_none rfl) rfl rfl (by kernel_rfl) (by kernel_rfl) (fun _ hw => rn_load (by kernel_rfl) (Sw.fact (List.Mem.head _) rfl hw)) fun hS => ?_
    refine t_kw hp13 hS 14 (.int .u32 (IntKind.u32.wrap t41_20) : Value) rfl (wanted_none rfl) rfl rfl (by kernel_rfl) (fun _ _ => by kernel_rfl) fun hS => ?_
    refine t_kw hp13 hS 15 (.int .u32 (IntKind.u32.wrap ((IntKind.u32.wrap t41_20) * 2 ^ 16)) : Value) rfl (wanted_none rfl) rfl rfl (by kernel_rfl) (fun _ _ => by kernel_rfl) fun hS => ?_
    refine t_kw hp13 hS 16 (.int .u32 (ibits .or .u32 (IntKind.u32.wrap ((IntKind.u32.wrap t33_18) * 2 ^ 24)) (IntKind.u32.wrap ((IntKind.u32.wrap t41_20) * 2 ^ 16))) : Value) rfl (wanted_none rfl) rfl rfl (by kernel_rfl) (fun _ _ => by kernel_rfl) fun hS => ?_
    refine t_kw hp13 hS 17 (.slice b2_10.a b2_10.n b2_10.c : Value) rfl (wanted_none rfl) rfl rfl (by kernel_rfl) (fun _ _ => by kernel_rfl) fun hS => ?_
    refine t_kw hp13 hS 18 (.int .i64 t25_14 : Value) rfl (wanted_none rfl) rfl rfl (by kernel_rfl) (fun _ _ => by kernel_rfl) fun hS => ?_
    refine t_kw hp13 hS 19 (.int .i64 (IntKind.i64.wrap (4 * t25_14)) : Value) rfl (wanted_none rfl) rfl rfl (by kernel_rfl) (fun _ _ => by kernel_rfl) fun hS => ?_
    refine t_kw hp13 hS 20 (.int .i64 (IntKind.i64.wrap ((IntKind.i64.wrap (4 * t25_14)) + 2)) : Value) rfl (wanted_none rfl) rfl rfl (by kernel_rfl) (fun _ _ => by kernel_rfl) fun hS => ?_
    obtain ⟨hx18a, hx18b, a_21, hx18, h⟩ := h
    refine t_v (s := Instr.indexAt 33 (.slice b2_10.a b2_10.n b2_10.c : Value) (.int .i64 (IntKind.i64.wrap ((IntKind.i64.wrap (4 * t25_14)) + 2)) : Value)) hp13 hS 21 (.pointer (some (a_21.add (Int.toNat (IntKind.i64.wrap ((IntKind.i64.wrap (4 * t25_14)) + 2))))) : Value) rfl (wanted_none rfl) rfl rfl (by kernel_rfl) (by kernel_rfl) (fun _ _ => run_ixs1 (el := 5) (by kernel_rfl) (by kernel_rfl) hx18 hx18a hx18b) fun hS => ?_
    obtain ⟨t50_22, hx19, h⟩ := h
    refine t_add ⟨22, [35], fun wx => wx.cell? (a_21.add (Int.toNat (IntKind.i64.wrap ((IntKind.i64.wrap (4 * t25_14)) + 2)))) = some (.int .u8 t50_22)⟩ ?_
    replace hS := SF_on (x := ⟨22, [35], fun wx => wx.cell? (a_21.add (Int.toNat (IntKind.i64.wrap ((IntKind.i64.wrap (4 * t25_14)) + 2)))) = some (.int .u8 t50_22)⟩) hx19 hS
    refine t_v (s := Instr.loadAt 5 (.pointer (some (a_21.add (Int.toNat (IntKind.i64.wrap ((IntKind.i64.wrap (4 * t25_14)) + 2))))))) hp13 hS 22 (.int .u8 t50_22 : Value) rfl (wanted_none rfl) rfl rfl (by kernel_rfl) (by kernel_rfl) (fun _ hw => rn_load (by kernel_rfl) (Sw.fact (List.Mem.head _) rfl hw)) fun hS => ?_
    refine t_kw hp13 hS 23 (.int .u32 (IntKind.u32.wrap t50_22) : Value) rfl (wanted_none rfl) rfl rfl (by kernel_rfl) (fun _ _ => by kernel_rfl) fun hS => ?_
    refine t_kw hp13 hS 24 (.int .u32 (IntKind.u32.wrap ((IntKind.u32.wrap t50_22) * 2 ^ 8)) : Value) rfl (wanted_none rfl) rfl rfl (by kernel_rfl) (fun _ _ => by kernel_rfl) fun hS => ?_
    refine t_kw hp13 hS 25 (.int .u32 (ibits .or .u32 (ibits .or .u32 (IntKind.u32.wrap ((IntKind.u32.wrap t33_18) * 2 ^ 24)) (IntKind.u32.wrap ((IntKind.u32.wrap t41_20) * 2 ^ 16))) (IntKind.u32.wrap ((IntKind.u32.wrap t50_22) * 2 ^ 8))) : Value) rfl (wanted_none rfl) rfl rfl (by kernel_rfl) (fun _ _ => by kernel_rfl) fun hS => ?_
    refine t_kw hp13 hS 26 (.slice b2_10.a b2_10.n b2_10.c : Value) rfl (wanted_none rfl) rfl rfl (by kernel_rfl) (fun _ _ => by kernel_rfl) fun hS => ?_
    refine t_kw hp13 hS 27 (.int .i64 t25_14 : Value) rfl (wanted_none rfl) rfl rfl (by kernel_rfl) (fun _ _ => by kernel_rfl) fun hS => ?_
    refine t_kw hp13 hS 28 (.int .i64 (IntKind.i64.wrap (4 * t25_14)) : Value) rfl (wanted_none rfl) rfl rfl (by kernel_rfl) (fun _ _ => by kernel_rfl) fun hS => ?_
    refine t_kw hp13 hS 29 (.int .i64 (IntKind.i64.wrap ((IntKind.i64.wrap (4 * t25_14)) + 3)) : Value) rfl (wanted_none rfl) rfl rfl (by kernel_rfl) (fun _ _ => by kernel_rfl) fun hS => ?_
    obtain ⟨hx20a, hx20b, a_23, hx20, h⟩ := h
    refine t_v (s := Instr.indexAt 33 (.slice b2_10.a b2_10.n b2_10.c : Value) (.int .i64 (IntKind.i64.wrap ((IntKind.i64.wrap (4 * t25_14)) + 3)) : Value)) hp13 hS 30 (.pointer (some (a_23.add (Int.toNat (IntKind.i64.wrap ((IntKind.i64.wrap (4 * t25_14)) + 3))))) : Value) rfl (wanted_none rfl) rfl rfl (by kernel_rfl) (by kernel_rfl) (fun _ _ => run_ixs1 (el := 5) (by kernel_rfl) (by kernel_rfl) hx20 hx20a hx20b) fun hS => ?_
    obtain ⟨t59_24, hx21, h⟩ := h
    refine t_add ⟨31, [35], fun wx => wx.cell? (a_23.add (Int.toNat (IntKind.i64.wrap ((IntKind.i64.wrap (4 * t25_14)) + 3)))) = some (.int .u8 t59_24)⟩ ?_
    replace hS := SF_on (x := ⟨31, [35], fun wx => wx.cell? (a_23.add (Int.toNat (IntKind.i64.wrap ((IntKind.i64.wrap (4 * t25_14)) + 3)))) = some (.int .u8 t59_24)⟩) hx21 hS
    refine t_v (s := Instr.loadAt 5 (.pointer (some (a_23.add (Int.toNat (IntKind.i64.wrap ((IntKind.i64.wrap (4 * t25_14)) + 3))))))) hp13 hS 31 (.int .u8 t59_24 : Value) rfl (wanted_none rfl) rfl rfl (by kernel_rfl) (by kernel_rfl) (fun _ hw => rn_load (by kernel_rfl) (Sw.fact (List.Mem.head _) rfl hw)) fun hS => ?_
    refine t_kw hp13 hS 32 (.int .u32 (IntKind.u32.wrap t59_24) : Value) rfl (wanted_none rfl) rfl rfl (by kernel_rfl) (fun _ _ => by kernel_rfl) fun hS => ?_
    refine t_kw hp13 hS 33 (.int .u32 (ibits .or .u32 (ibits .or .u32 (ibits .or .u32 (IntKind.u32.wrap ((IntKind.u32.wrap t33_18) * 2 ^ 24)) (IntKind.u32.wrap ((IntKind.u32.wrap t41_20) * 2 ^ 16))) (IntKind.u32.wrap ((IntKind.u32.wrap t50_22) * 2 ^ 8))) (IntKind.u32.wrap t59_24)) : Value) rfl (wanted_none rfl) rfl rfl (by kernel_rfl) (fun _ _ => by kernel_rfl) fun hS => ?_
    obtain ⟨hx22a, hx22b, h⟩ := h
    refine t_v (s := Instr.indexAt 96 (.pointer (some (⟨w_12.heap.size, 0, none⟩ : Addr)) : Value) (.int .i64 t25_14 : Value)) hp13 hS 34 (.pointer (some ((⟨w_12.heap.size, 0, none⟩ : Addr).add (Int.toNat t25_14))) : Value) rfl (wanted_none rfl) rfl rfl (by kernel_rfl) (by kernel_rfl) (fun _ _ => run_ixa1 (el := 23) (by kernel_rfl) (by kernel_rfl) hx22a hx22b) fun hS => ?_
    obtain ⟨hx23, h⟩ := h
    replace h := h _ rfl
    refine t_u 35 (s := Instr.storeAt 23 (.pointer (some ((⟨w_12.heap.size, 0, none⟩ : Addr).add (Int.toNat t25_14)))) (.int .u32 (ibits .or .u32 (ibits .or .u32 (ibits .or .u32 (IntKind.u32.wrap ((IntKind.u32.wrap t33_18) * 2 ^ 24)) (IntKind.u32.wrap ((IntKind.u32.wrap t41_20) * 2 ^ 16))) (IntKind.u32.wrap ((IntKind.u32.wrap t50_22) * 2 ^ 8))) (IntKind.u32.wrap t59_24)) : Value)) (by kernel_rfl) rfl (wanted_none rfl) rfl (by kernel_rfl) (rn_store1 (by kernel_rfl) rfl hx23) (SF_off (by kernel_rfl) (by kernel_rfl) (SF_off (by kernel_rfl) (by kernel_rfl) (SF_off (by kernel_rfl) (by kernel_rfl) (SF_off (by kernel_rfl) (by kernel_rfl) SF_nil)))) fun hS => ?_
    generalize w_16.setCell ((⟨w_12.heap.size, 0, none⟩ : Addr).add (Int.toNat t25_14)) (.int .u32 (ibits .or .u32 (ibits .or .u32 (ibits .or .u32 (IntKind.u32.wrap ((IntKind.u32.wrap t33_18) * 2 ^ 24)) (IntKind.u32.wrap ((IntKind.u32.wrap t41_20) * 2 ^ 16))) (IntKind.u32.wrap ((IntKind.u32.wrap t50_22) * 2 ^ 8))) (IntKind.u32.wrap t59_24)) : Value) = w_25 at hS h ⊢
    refine t_done (by kernel_rfl) (hE13 _ _ ?_)
    refine e_block_n ?_
    refine y_then (hK10 _ _ ?_)
    refine y_region ?_
    refine y_k (.int .i64 (IntKind.i64.wrap (t25_14 + 1)) : Value) w_25 rfl rfl rfl (by kernel_rfl) ?_
    refine y_k (.int .i64 (IntKind.i64.wrap (t25_14 + 1)) : Value) w_25 rfl rfl rfl (by kernel_rfl) ?_
    refine y_nil ?_
    refine y_then (hN7 (IntKind.i64.wrap (t25_14 + 1)) _ _ h ?_)
    dsimp only
    refine upd_id ?_ rfl
    refine upd_id ?_ rfl
    refine upd_id ?_ rfl
    refine upd_id ?_ rfl
    refine upd_id ?_ rfl
    refine upd_id ?_ rfl
    rfl
  · replace h := h.2 (of_decide_eq_false hb123)
    refine y_exit ?_
    repeat (first | refine e_then_x ?_ | refine e_block_y rfl ?_)
    refine e_block_x ?_
    refine y_then (hK3 _ _ ?_)
    refine y_seq fun K24 hK24 => ?_
    refine y_seq fun K25 hK25 => ?_
    refine y_region ?_
    refine y_k (.int .i64 16 : Value) w_15 rfl rfl rfl (by kernel_rfl) ?_
    refine y_nil ?_
    refine y_then (hK25 _ _ ?_)
    refine y_block ?_
    refine y_loop (S := Int) (fun s j => match s with | (i9_26) => upd (upd (upd (upd (upd (j) 1 (.pointer k1_9 : Value)) 3 (.pointer (some (⟨w.heap.size, 0, none⟩ : Addr)) : Value)) 6 (.pointer (some (⟨w_11.heap.size, 0, none⟩ : Addr)) : Value)) 7 (.pointer (some (⟨w_12.heap.size, 0, none⟩ : Addr)) : Value)) 9 (.int .i64 i9_26 : Value)) (16) ?_ h ?_
    · dsimp only
      refine upd_id ?_ rfl
      refine upd_id ?_ rfl
      refine upd_id ?_ rfl
      refine upd_id ?_ rfl
      refine upd_id ?_ rfl
      rfl
    rintro KN28 next27 hN28 i9_26 j w_27 h
    unfold F79_l2 at h
    refine y_seq fun K29 hK29 => ?_
    refine y_seq fun K30 hK30 => ?_
    refine y_region ?_
    refine y_k (.int .i64 i9_26 : Value) w_27 rfl rfl rfl (by kernel_rfl) ?_
    refine y_k (.bool (decide (i9_26 < 64)) : Value) w_27 rfl rfl rfl (by kernel_rfl) ?_
    refine y_nil ?_
    refine y_then (hK30 _ _ ?_)
    refine y_cond (decide (i9_26 < 64)) rfl rfl (fun hb122 => ?_) (fun hb122 => ?_)
    · replace h := h.1 (of_decide_eq_true hb122)
      refine y_skip ?_
      refine y_then (hK29 _ _ ?_)
      refine y_seq fun K31 hK31 => ?_
      refine y_block ?_
      refine y_seq fun K33 hK33 => ?_
      refine q_region (by kernel_rfl) (by kernel_rfl) fun Qq34 hQq34 => ?_
      refine q_k (.int .i64 i9_26 : Value) rfl rfl rfl (fun _ => by kernel_rfl) ?_
      refine q_k (.int .i64 (IntKind.i64.wrap (i9_26 - 2)) : Value) rfl rfl rfl (fun _ => by kernel_rfl) ?_
      obtain ⟨hx35a, hx35b, h⟩ := h
      refine q_v (v := (.pointer (some ((⟨w_12.heap.size, 0, none⟩ : Addr).add (Int.toNat (IntKind.i64.wrap (i9_26 - 2))))) : Value)) (s := Instr.indexAt 96 (.pointer (some (⟨w_12.heap.size, 0, none⟩ : Addr)) : Value) (.int .i64 (IntKind.i64.wrap (i9_26 - 2)) : Value)) rfl rfl rfl (by kernel_rfl) (fun _ => run_ixa1 (el := 23) (by kernel_rfl) (by kernel_rfl) hx35a hx35b) ?_
      obtain ⟨t71_28, hx36, h⟩ := h
      refine q_v (v := (.int .u32 t71_28 : Value)) (s := Instr.loadAt 23 (.pointer (some ((⟨w_12.heap.size, 0, none⟩ : Addr).add (Int.toNat (IntKind.i64.wrap (i9_26 - 2))))))) rfl rfl rfl (by kernel_rfl) (fun _ => rn_load (by kernel_rfl) hx36) ?_
      refine q_k (.int .i64 i9_26 : Value) rfl rfl rfl (fun _ => by kernel_rfl) ?_
      refine q_k (.int .i64 (IntKind.i64.wrap (i9_26 - 15)) : Value) rfl rfl rfl (fun _ => by kernel_rfl) ?_
      obtain ⟨hx37a, hx37b, h⟩ := h
      refine q_v (v := (.pointer (some ((⟨w_12.heap.size, 0, none⟩ : Addr).add (Int.toNat (IntKind.i64.wrap (i9_26 - 15))))) : Value)) (s := Instr.indexAt 96 (.pointer (some (⟨w_12.heap.size, 0, none⟩ : Addr)) : Value) (.int .i64 (IntKind.i64.wrap (i9_26 - 15)) : Value)) rfl rfl rfl (by kernel_rfl) (fun _ => run_ixa1 (el := 23) (by kernel_rfl) (by kernel_rfl) hx37a hx37b) ?_
      obtain ⟨t75_29, hx38, h⟩ := h
      refine q_v (v := (.int .u32 t75_29 : Value)) (s := Instr.loadAt 23 (.pointer (some ((⟨w_12.heap.size, 0, none⟩ : Addr).add (Int.toNat (IntKind.i64.wrap (i9_26 - 15))))))) rfl rfl rfl (by kernel_rfl) (fun _ => rn_load (by kernel_rfl) hx38) ?_
      refine q_k (.int .u32 t71_28 : Value) rfl rfl rfl (fun _ => by kernel_rfl) ?_
      refine q_k (.int .u32 t75_29 : Value) rfl rfl rfl (fun _ => by kernel_rfl) ?_
      refine q_nil (hQq34 _ fun m48 => ?_)
      replace h := h _ ⟨m48, rfl⟩
      generalize w_27.drewN m48 = w_30 at h ⊢
      refine y_then (hK33 _ _ ?_)
      refine y_seq fun K39 hK39 => ?_
      refine y_region ?_
      refine y_k (.int .u32 t71_28 : Value) w_30 rfl rfl rfl (by kernel_rfl) ?_
      refine y_call rfl rfl rfl (by kernel_rfl) (h.mono ?_)
      rintro _ w_32 ⟨t77_31, rfl, h⟩
      refine ⟨_, rfl, ?_⟩
      refine y_k (.int .u32 t71_28 : Value) w_32 rfl rfl rfl (by kernel_rfl) ?_
      refine y_call rfl rfl rfl (by kernel_rfl) (h.mono ?_)
      rintro _ w_34 ⟨t79_33, rfl, h⟩
      refine ⟨_, rfl, ?_⟩
      refine y_k (.int .u32 (ibits .xor .u32 t77_31 t79_33) : Value) w_34 rfl rfl rfl (by kernel_rfl) ?_
      refine y_k (.int .u32 t71_28 : Value) w_34 rfl rfl rfl (by kernel_rfl) ?_
      refine y_k (.int .u32 (Int.fdiv t71_28 (2 ^ 10)) : Value) w_34 rfl rfl rfl (by kernel_rfl) ?_
      refine y_k (.int .u32 (ibits .xor .u32 (ibits .xor .u32 t77_31 t79_33) (Int.fdiv t71_28 (2 ^ 10))) : Value) w_34 rfl rfl rfl (by kernel_rfl) ?_
      refine y_k (.int .u32 (ibits .xor .u32 (ibits .xor .u32 t77_31 t79_33) (Int.fdiv t71_28 (2 ^ 10))) : Value) w_34 rfl rfl rfl (by kernel_rfl) ?_
      refine y_nil ?_
      refine y_then (hK39 _ _ ?_)
      refine y_seq fun K40 hK40 => ?_
      refine y_region ?_
      refine y_k (.int .u32 t75_29 : Value) w_34 rfl rfl rfl (by kernel_rfl) ?_
      refine y_call rfl rfl rfl (by kernel_rfl) (h.mono ?_)
      rintro _ w_36 ⟨t85_35, rfl, h⟩
      refine ⟨_, rfl, ?_⟩
      refine y_k (.int .u32 t75_29 : Value) w_36 rfl rfl rfl (by kernel_rfl) ?_
      refine y_call rfl rfl rfl (by kernel_rfl) (h.mono ?_)
      rintro _ w_38 ⟨t87_37, rfl, h⟩
      refine ⟨_, rfl, ?_⟩
      refine y_k (.int .u32 (ibits .xor .u32 t85_35 t87_37) : Value) w_38 rfl rfl rfl (by kernel_rfl) ?_
      refine y_k (.int .u32 t75_29 : Value) w_38 rfl rfl rfl (by kernel_rfl) ?_
      refine y_k (.int .u32 (Int.fdiv t75_29 (2 ^ 3)) : Value) w_38 rfl rfl rfl (by kernel_rfl) ?_
      refine y_k (.int .u32 (ibits .xor .u32 (ibits .xor .u32 t85_35 t87_37) (Int.fdiv t75_29 (2 ^ 3))) : Value) w_38 rfl rfl rfl (by kernel_rfl) ?_
      refine y_k (.int .u32 (ibits .xor .u32 (ibits .xor .u32 t85_35 t87_37) (Int.fdiv t75_29 (2 ^ 3))) : Value) w_38 rfl rfl rfl (by kernel_rfl) ?_
      refine y_nil ?_
      refine y_then (hK40 _ _ ?_)
      obtain ⟨w_39, hwd41⟩ : ∃ wd : World, wd = w_38.drew := ⟨_, rfl⟩
      replace h := h _ hwd41
      refine t_region (wd := w_39) [] (by kernel_rfl) hwd41 SF_nil fun Q41 hE41 hp41 hS => ?_
      clear hwd41
      refine t_kw hp41 hS 0 (.int .i64 i9_26 : Value) rfl (wanted_none rfl) rfl rfl (by kernel_rfl) (fun _ _ => by kernel_rfl) fun hS => ?_
      refine t_kw hp41 hS 1 (.int .u32 (ibits .xor .u32 (ibits .xor .u32 t77_31 t79_33) (Int.fdiv t71_28 (2 ^ 10))) : Value) rfl (wanted_none rfl) rfl rfl (by kernel_rfl) (fun _ _ => by kernel_rfl) fun hS => ?_
      refine t_kw hp41 hS 2 (.int .i64 i9_26 : Value) rfl (wanted_none rfl) rfl rfl (by kernel_rfl) (fun _ _ => by kernel_rfl) fun hS => ?_
      refine t_kw hp41 hS 3 (.int .i64 (IntKind.i64.wrap (i9_26 - 7)) : Value) rfl (wanted_none rfl) rfl rfl (by kernel_rfl) (fun _ _ => by kernel_rfl) fun hS => ?_
      obtain ⟨hx42a, hx42b, h⟩ := h
      refine t_v (s := Instr.indexAt 96 (.pointer (some (⟨w_12.heap.size, 0, none⟩ : Addr)) : Value) (.int .i64 (IntKind.i64.wrap (i9_26 - 7)) : Value)) hp41 hS 4 (.pointer (some ((⟨w_12.heap.size, 0, none⟩ : Addr).add (Int.toNat (IntKind.i64.wrap (i9_26 - 7))))) : Value) rfl (wanted_none rfl) rfl rfl (by kernel_rfl) (by kernel_rfl) (fun _ _ => run_ixa1 (el := 23) (by kernel_rfl) (by kernel_rfl) hx42a hx42b) fun hS => ?_
      obtain ⟨t97_40, hx43, h⟩ := h
      refine t_add ⟨5, [15], fun wx => wx.cell? ((⟨w_12.heap.size, 0, none⟩ : Addr).add (Int.toNat (IntKind.i64.wrap (i9_26 - 7)))) = some (.int .u32 t97_40)⟩ ?_
      replace hS := SF_on (x := ⟨5, [15], fun wx => wx.cell? ((⟨w_12.heap.size, 0, none⟩ : Addr).add (Int.toNat (IntKind.i64.wrap (i9_26 - 7)))) = some (.int .u32 t97_40)⟩) hx43 hS
      refine t_v (s := Instr.loadAt 23 (.pointer (some ((⟨w_12.heap.size, 0, none⟩ : Addr).add (Int.toNat (IntKind.i64.wrap (i9_26 - 7))))))) hp41 hS 5 (.int .u32 t97_40 : Value) rfl (wanted_none rfl) rfl rfl (by kernel_rfl) (by kernel_rfl) (fun _ hw => rn_load (by kernel_rfl) (Sw.fact (List.Mem.head _) rfl hw)) fun hS => ?_
      refine t_kw hp41 hS 6 (.int .u32 (IntKind.u32.wrap ((ibits .xor .u32 (ibits .xor .u32 t77_31 t79_33) (Int.fdiv t71_28 (2 ^ 10))) + t97_40)) : Value) rfl (wanted_none rfl) rfl rfl (by kernel_rfl) (fun _ _ => by kernel_rfl) fun hS => ?_
      refine t_kw hp41 hS 7 (.int .u32 (ibits .xor .u32 (ibits .xor .u32 t85_35 t87_37) (Int.fdiv t75_29 (2 ^ 3))) : Value) rfl (wanted_none rfl) rfl rfl (by kernel_rfl) (fun _ _ => by kernel_rfl) fun hS => ?_
      refine t_kw hp41 hS 8 (.int .u32 (IntKind.u32.wrap ((IntKind.u32.wrap ((ibits .xor .u32 (ibits .xor .u32 t77_31 t79_33) (Int.fdiv t71_28 (2 ^ 10))) + t97_40)) + (ibits .xor .u32 (ibits .xor .u32 t85_35 t87_37) (Int.fdiv t75_29 (2 ^ 3))))) : Value) rfl (wanted_none rfl) rfl rfl (by kernel_rfl) (fun _ _ => by kernel_rfl) fun hS => ?_
      refine t_kw hp41 hS 9 (.int .i64 i9_26 : Value) rfl (wanted_none rfl) rfl rfl (by kernel_rfl) (fun _ _ => by kernel_rfl) fun hS => ?_
      refine t_kw hp41 hS 10 (.int .i64 (IntKind.i64.wrap (i9_26 - 16)) : Value) rfl (wanted_none rfl) rfl rfl (by kernel_rfl) (fun _ _ => by kernel_rfl) fun hS => ?_
      obtain ⟨hx44a, hx44b, h⟩ := h
      refine t_v (s := Instr.indexAt 96 (.pointer (some (⟨w_12.heap.size, 0, none⟩ : Addr)) : Value) (.int .i64 (IntKind.i64.wrap (i9_26 - 16)) : Value)) hp41 hS 11 (.pointer (some ((⟨w_12.heap.size, 0, none⟩ : Addr).add (Int.toNat (IntKind.i64.wrap (i9_26 - 16))))) : Value) rfl (wanted_none rfl) rfl rfl (by kernel_rfl) (by kernel_rfl) (fun _ _ => run_ixa1 (el := 23) (by kernel_rfl) (by kernel_rfl) hx44a hx44b) fun hS => ?_
      obtain ⟨t104_41, hx45, h⟩ := h
      refine t_add ⟨12, [15], fun wx => wx.cell? ((⟨w_12.heap.size, 0, none⟩ : Addr).add (Int.toNat (IntKind.i64.wrap (i9_26 - 16)))) = some (.int .u32 t104_41)⟩ ?_
      replace hS := SF_on (x := ⟨12, [15], fun wx => wx.cell? ((⟨w_12.heap.size, 0, none⟩ : Addr).add (Int.toNat (IntKind.i64.wrap (i9_26 - 16)))) = some (.int .u32 t104_41)⟩) hx45 hS
      refine t_v (s := Instr.loadAt 23 (.pointer (some ((⟨w_12.heap.size, 0, none⟩ : Addr).add (Int.toNat (IntKind.i64.wrap (i9_26 - 16))))))) hp41 hS 12 (.int .u32 t104_41 : Value) rfl (wanted_none rfl) rfl rfl (by kernel_rfl) (by kernel_rfl) (fun _ hw => rn_load (by kernel_rfl) (Sw.fact (List.Mem.head _) rfl hw)) fun hS => ?_
      refine t_kw hp41 hS 13 (.int .u32 (IntKind.u32.wrap ((IntKind.u32.wrap ((IntKind.u32.wrap ((ibits .xor .u32 (ibits .xor .u32 t77_31 t79_33) (Int.fdiv t71_28 (2 ^ 10))) + t97_40)) + (ibits .xor .u32 (ibits .xor .u32 t85_35 t87_37) (Int.fdiv t75_29 (2 ^ 3))))) + t104_41)) : Value) rfl (wanted_none rfl) rfl rfl (by kernel_rfl) (fun _ _ => by kernel_rfl) fun hS => ?_
      obtain ⟨hx46a, hx46b, h⟩ := h
      refine t_v (s := Instr.indexAt 96 (.pointer (some (⟨w_12.heap.size, 0, none⟩ : Addr)) : Value) (.int .i64 i9_26 : Value)) hp41 hS 14 (.pointer (some ((⟨w_12.heap.size, 0, none⟩ : Addr).add (Int.toNat i9_26))) : Value) rfl (wanted_none rfl) rfl rfl (by kernel_rfl) (by kernel_rfl) (fun _ _ => run_ixa1 (el := 23) (by kernel_rfl) (by kernel_rfl) hx46a hx46b) fun hS => ?_
      obtain ⟨hx47, h⟩ := h
      replace h := h _ rfl
      refine t_u 15 (s := Instr.storeAt 23 (.pointer (some ((⟨w_12.heap.size, 0, none⟩ : Addr).add (Int.toNat i9_26)))) (.int .u32 (IntKind.u32.wrap ((IntKind.u32.wrap ((IntKind.u32.wrap ((ibits .xor .u32 (ibits .xor .u32 t77_31 t79_33) (Int.fdiv t71_28 (2 ^ 10))) + t97_40)) + (ibits .xor .u32 (ibits .xor .u32 t85_35 t87_37) (Int.fdiv t75_29 (2 ^ 3))))) + t104_41)) : Value)) (by kernel_rfl) rfl (wanted_none rfl) rfl (by kernel_rfl) (rn_store1 (by kernel_rfl) rfl hx47) (SF_off (by kernel_rfl) (by kernel_rfl) (SF_off (by kernel_rfl) (by kernel_rfl) SF_nil)) fun hS => ?_
      generalize w_39.setCell ((⟨w_12.heap.size, 0, none⟩ : Addr).add (Int.toNat i9_26)) (.int .u32 (IntKind.u32.wrap ((IntKind.u32.wrap ((IntKind.u32.wrap ((ibits .xor .u32 (ibits .xor .u32 t77_31 t79_33) (Int.fdiv t71_28 (2 ^ 10))) + t97_40)) + (ibits .xor .u32 (ibits .xor .u32 t85_35 t87_37) (Int.fdiv t75_29 (2 ^ 3))))) + t104_41)) : Value) = w_42 at hS h ⊢
      refine t_done (by kernel_rfl) (hE41 _ _ ?_)
      refine e_block_n ?_
      refine y_then (hK31 _ _ ?_)
      refine y_region ?_
      refine y_k (.int .i64 i9_26 : Value) w_42 rfl rfl rfl (by kernel_rfl) ?_
      refine y_k (.int .i64 (IntKind.i64.wrap (i9_26 + 1)) : Value) w_42 rfl rfl rfl (by kernel_rfl) ?_
      refine y_k (.int .i64 (IntKind.i64.wrap (i9_26 + 1)) : Value) w_42 rfl rfl rfl (by kernel_rfl) ?_
      refine y_nil ?_
      refine y_then (hN28 (IntKind.i64.wrap (i9_26 + 1)) _ _ h ?_)
      dsimp only
      refine upd_id ?_ rfl
      refine upd_id ?_ rfl
      refine upd_id ?_ rfl
      refine upd_id ?_ rfl
      refine upd_id ?_ rfl
      rfl
    · replace h := h.2 (of_decide_eq_false hb122)
      refine y_exit ?_
      repeat (first | refine e_then_x ?_ | refine e_block_y rfl ?_)
      refine e_block_x ?_
      refine y_then (hK24 _ _ ?_)
      refine y_seq fun K49 hK49 => ?_
      refine y_region ?_
      obtain ⟨t107_43, t107_44, t107_45, t107_46, t107_47, t107_48, t107_49, t107_50, hx50, h⟩ := h
      refine y_v (s := Instr.loadAt 94 (.pointer (some (⟨w.heap.size, 0, none⟩ : Addr)))) rfl rfl rfl (by kernel_rfl) (rn_loadcells (k := 8) ⟨by kernel_rfl, by kernel_rfl⟩ rfl hx50) ?_
      refine y_k (.pointer (some (⟨w_27.heap.size, 0, none⟩ : Addr)) : Value) (w_27.alloc (.cells #[.int .u32 0, .int .u32 0, .int .u32 0, .int .u32 0, .int .u32 0, .int .u32 0, .int .u32 0, .int .u32 0] 94)) rfl rfl rfl (by kernel_rfl) ?_
      replace h := h _ rfl
      generalize w_27.alloc (.cells #[.int .u32 0, .int .u32 0, .int .u32 0, .int .u32 0, .int .u32 0, .int .u32 0, .int .u32 0, .int .u32 0] 94) = w_51 at h ⊢
      obtain ⟨hx51, h⟩ := h
      replace h := h _ rfl
      refine y_u (s := Instr.storeAt 94 (.pointer (some (⟨w_27.heap.size, 0, none⟩ : Addr))) (.agg #[.int .u32 t107_43, .int .u32 t107_44, .int .u32 t107_45, .int .u32 t107_46, .int .u32 t107_47, .int .u32 t107_48, .int .u32 t107_49, .int .u32 t107_50] : Value)) rfl rfl (by kernel_rfl) (rn_storecells (k := 8) (cs := [.int .u32 t107_43, .int .u32 t107_44, .int .u32 t107_45, .int .u32 t107_46, .int .u32 t107_47, .int .u32 t107_48, .int .u32 t107_49, .int .u32 t107_50]) (by kernel_rfl) rfl (by simp [Value.oneCell']) hx51) ?_
      generalize setCells w_51 (⟨w_27.heap.size, 0, none⟩ : Addr) 0 [.int .u32 t107_43, .int .u32 t107_44, .int .u32 t107_45, .int .u32 t107_46, .int .u32 t107_47, .int .u32 t107_48, .int .u32 t107_49, .int .u32 t107_50] = w_52 at h ⊢
      refine y_nil ?_
      refine y_then (hK49 _ _ ?_)
      refine y_seq fun K52 hK52 => ?_
      refine y_seq fun K53 hK53 => ?_
      refine y_region ?_
      refine y_k (.int .i64 0 : Value) w_52 rfl rfl rfl (by kernel_rfl) ?_
      refine y_nil ?_
      refine y_then (hK53 _ _ ?_)
      refine y_block ?_
      refine y_loop (S := Int) (fun s j => match s with | (t108_53) => upd (upd (upd (upd (upd (upd (j) 1 (.pointer k1_9 : Value)) 3 (.pointer (some (⟨w.heap.size, 0, none⟩ : Addr)) : Value)) 6 (.pointer (some (⟨w_11.heap.size, 0, none⟩ : Addr)) : Value)) 7 (.pointer (some (⟨w_12.heap.size, 0, none⟩ : Addr)) : Value)) 14 (.pointer (some (⟨w_27.heap.size, 0, none⟩ : Addr)) : Value)) 108 (.int .i64 t108_53 : Value)) (0) ?_ h ?_
      · dsimp only
        refine upd_id ?_ rfl
        refine upd_id ?_ rfl
        refine upd_id ?_ rfl
        refine upd_id ?_ rfl
        refine upd_id ?_ rfl
        refine upd_id ?_ rfl
        rfl
      rintro KN56 next55 hN56 t108_53 j w_54 h
      unfold F79_l3 at h
      refine y_seq fun K57 hK57 => ?_
      refine y_region ?_
      refine y_k (.bool (decide (t108_53 < 64)) : Value) w_54 rfl rfl rfl (by kernel_rfl) ?_
      refine y_nil ?_
      refine y_then (hK57 _ _ ?_)
      refine y_seq fun K58 hK58 => ?_
      refine y_cond (decide (t108_53 < 64)) rfl rfl (fun hb121 => ?_) (fun hb121 => ?_)
      · replace h := h.1 (of_decide_eq_true hb121)
        refine y_skip ?_
        refine y_then (hK58 _ _ ?_)
        refine y_seq fun K59 hK59 => ?_
        refine y_block ?_
        refine y_seq fun K61 hK61 => ?_
        refine y_region ?_
        refine y_k (.int .i64 t108_53 : Value) w_54 rfl rfl rfl (by kernel_rfl) ?_
        refine y_k (.int .i64 t108_53 : Value) w_54 rfl rfl rfl (by kernel_rfl) ?_
        refine y_nil ?_
        refine y_then (hK61 _ _ ?_)
        refine y_seq fun K62 hK62 => ?_
        refine q_region (by kernel_rfl) (by kernel_rfl) fun Qq63 hQq63 => ?_
        refine q_k (.pointer (some (⟨w_27.heap.size, 0, none⟩ : Addr)) : Value) rfl rfl rfl (fun _ => by kernel_rfl) ?_
        obtain ⟨t112_55, hx65, h⟩ := h
        refine q_v (v := (.int .u32 t112_55 : Value)) (s := Instr.loadAt 23 (.pointer (some (⟨w_27.heap.size, 0, none⟩ : Addr)))) rfl rfl rfl (by kernel_rfl) (fun _ => rn_load (by kernel_rfl) hx65) ?_
        refine q_k (.pointer (some ((⟨w_27.heap.size, 0, none⟩ : Addr).add 1)) : Value) rfl rfl rfl (fun _ => by kernel_rfl) ?_
        obtain ⟨t114_56, hx67, h⟩ := h
        refine q_v (v := (.int .u32 t114_56 : Value)) (s := Instr.loadAt 23 (.pointer (some ((⟨w_27.heap.size, 0, none⟩ : Addr).add 1)))) rfl rfl rfl (by kernel_rfl) (fun _ => rn_load (by kernel_rfl) hx67) ?_
        refine q_k (.pointer (some ((⟨w_27.heap.size, 0, none⟩ : Addr).add 2)) : Value) rfl rfl rfl (fun _ => by kernel_rfl) ?_
        obtain ⟨t116_57, hx69, h⟩ := h
        refine q_v (v := (.int .u32 t116_57 : Value)) (s := Instr.loadAt 23 (.pointer (some ((⟨w_27.heap.size, 0, none⟩ : Addr).add 2)))) rfl rfl rfl (by kernel_rfl) (fun _ => rn_load (by kernel_rfl) hx69) ?_
        refine q_k (.pointer (some ((⟨w_27.heap.size, 0, none⟩ : Addr).add 4)) : Value) rfl rfl rfl (fun _ => by kernel_rfl) ?_
        obtain ⟨t118_58, hx71, h⟩ := h
        refine q_v (v := (.int .u32 t118_58 : Value)) (s := Instr.loadAt 23 (.pointer (some ((⟨w_27.heap.size, 0, none⟩ : Addr).add 4)))) rfl rfl rfl (by kernel_rfl) (fun _ => rn_load (by kernel_rfl) hx71) ?_
        refine q_k (.pointer (some ((⟨w_27.heap.size, 0, none⟩ : Addr).add 5)) : Value) rfl rfl rfl (fun _ => by kernel_rfl) ?_
        obtain ⟨t120_59, hx73, h⟩ := h
        refine q_v (v := (.int .u32 t120_59 : Value)) (s := Instr.loadAt 23 (.pointer (some ((⟨w_27.heap.size, 0, none⟩ : Addr).add 5)))) rfl rfl rfl (by kernel_rfl) (fun _ => rn_load (by kernel_rfl) hx73) ?_
        refine q_k (.pointer (some ((⟨w_27.heap.size, 0, none⟩ : Addr).add 6)) : Value) rfl rfl rfl (fun _ => by kernel_rfl) ?_
        obtain ⟨t122_60, hx75, h⟩ := h
        refine q_v (v := (.int .u32 t122_60 : Value)) (s := Instr.loadAt 23 (.pointer (some ((⟨w_27.heap.size, 0, none⟩ : Addr).add 6)))) rfl rfl rfl (by kernel_rfl) (fun _ => rn_load (by kernel_rfl) hx75) ?_
        refine q_k (.int .u32 t112_55 : Value) rfl rfl rfl (fun _ => by kernel_rfl) ?_
        refine q_k (.int .u32 t114_56 : Value) rfl rfl rfl (fun _ => by kernel_rfl) ?_
        refine q_k (.int .u32 t116_57 : Value) rfl rfl rfl (fun _ => by kernel_rfl) ?_
        refine q_k (.int .u32 t118_58 : Value) rfl rfl rfl (fun _ => by kernel_rfl) ?_
        refine q_k (.int .u32 t120_59 : Value) rfl rfl rfl (fun _ => by kernel_rfl) ?_
        refine q_k (.int .u32 t122_60 : Value) rfl rfl rfl (fun _ => by kernel_rfl) ?_
        refine q_nil (hQq63 _ fun m98 => ?_)
        replace h := h _ ⟨m98, rfl⟩
        generalize w_54.drewN m98 = w_61 at h ⊢
        refine y_then (hK62 _ _ ?_)
        refine y_seq fun K76 hK76 => ?_
        obtain ⟨w_62, hwd77⟩ : ∃ wd : World, wd = w_61.drew := ⟨_, rfl⟩
        replace h := h _ hwd77
        refine t_region (wd := w_62) [] (by kernel_rfl) hwd77 SF_nil fun Q77 hE77 hp77 hS => ?_
        clear hwd77
        refine t_kw hp77 hS 0 (.pointer (some ((⟨w_27.heap.size, 0, none⟩ : Addr).add 7)) : Value) rfl (wanted_none rfl) rfl rfl (by kernel_rfl) (fun _ _ => by kernel_rfl) fun hS => ?_
        obtain ⟨t124_63, hx79, h⟩ := h
        refine t_add ⟨1, [], fun wx => wx.cell? ((⟨w_27.heap.size, 0, none⟩ : Addr).add 7) = some (.int .u32 t124_63)⟩ ?_
        replace hS := SF_on (x := ⟨1, [], fun wx => wx.cell? ((⟨w_27.heap.size, 0, none⟩ : Addr).add 7) = some (.int .u32 t124_63)⟩) hx79 hS
        refine t_v (s := Instr.loadAt 23 (.pointer (some ((⟨w_27.heap.size, 0, none⟩ : Addr).add 7)))) hp77 hS 1 (.int .u32 t124_63 : Value) rfl (wanted_none rfl) rfl rfl (by kernel_rfl) (by kernel_rfl) (fun _ hw => rn_load (by kernel_rfl) (Sw.fact (List.Mem.head _) rfl hw)) fun hS => ?_
        refine t_kw hp77 hS 2 (.int .u32 t118_58 : Value) rfl (wanted_none rfl) rfl rfl (by kernel_rfl) (fun _ _ => by kernel_rfl) fun hS => ?_
        refine t_kw hp77 hS 4 (.int .u32 t118_58 : Value) rfl (wanted_none rfl) rfl rfl (by kernel_rfl) (fun _ _ => by kernel_rfl) fun hS => ?_
        refine t_kw hp77 hS 7 (.int .u32 t118_58 : Value) rfl (wanted_none rfl) rfl rfl (by kernel_rfl) (fun _ _ => by kernel_rfl) fun hS => ?_
        refine t_kw hp77 hS 11 (.int .u32 t118_58 : Value) rfl (wanted_none rfl) rfl rfl (by kernel_rfl) (fun _ _ => by kernel_rfl) fun hS => ?_
        refine t_kw hp77 hS 12 (.int .u32 t120_59 : Value) rfl (wanted_none rfl) rfl rfl (by kernel_rfl) (fun _ _ => by kernel_rfl) fun hS => ?_
        refine t_kw hp77 hS 13 (.int .u32 (ibits .and .u32 t118_58 t120_59) : Value) rfl (wanted_none rfl) rfl rfl (by kernel_rfl) (fun _ _ => by kernel_rfl) fun hS => ?_
        refine t_kw hp77 hS 14 (.int .u32 t118_58 : Value) rfl (wanted_none rfl) rfl rfl (by kernel_rfl) (fun _ _ => by kernel_rfl) fun hS => ?_
        refine t_kw hp77 hS 15 (.int .u32 (ibits .xor .u32 4294967295 t118_58) : Value) rfl (wanted_none rfl) rfl rfl (by kernel_rfl) (fun _ _ => by kernel_rfl) fun hS => ?_
        refine t_kw hp77 hS 16 (.int .u32 t122_60 : Value) rfl (wanted_none rfl) rfl rfl (by kernel_rfl) (fun _ _ => by kernel_rfl) fun hS => ?_
        refine t_kw hp77 hS 17 (.int .u32 (ibits .and .u32 (ibits .xor .u32 4294967295 t118_58) t122_60) : Value) rfl (wanted_none rfl) rfl rfl (by kernel_rfl) (fun _ _ => by kernel_rfl) fun hS => ?_
        refine t_kw hp77 hS 18 (.int .u32 (ibits .xor .u32 (ibits .and .u32 t118_58 t120_59) (ibits .and .u32 (ibits .xor .u32 4294967295 t118_58) t122_60)) : Value) rfl (wanted_none rfl) rfl rfl (by kernel_rfl) (fun _ _ => by kernel_rfl) fun hS => ?_
        refine t_kw hp77 hS 20 (.pointer k1_9 : Value) rfl (wanted_none rfl) rfl rfl (by kernel_rfl) (fun _ _ => by kernel_rfl) fun hS => ?_
        refine t_kw hp77 hS 21 (.int .i64 t108_53 : Value) rfl (wanted_none rfl) rfl rfl (by kernel_rfl) (fun _ _ => by kernel_rfl) fun hS => ?_
        obtain ⟨a_64, hx80, h⟩ := h
        refine t_kw hp77 hS 22 (.pointer (some a_64) : Value) rfl (wanted_none rfl) rfl rfl (by kernel_rfl) (fun _ _ => run_nilCheck hx80 rfl) fun hS => ?_
        obtain ⟨hx81a, hx81b, h⟩ := h
        refine t_v (s := Instr.indexAt 96 (.pointer (some a_64) : Value) (.int .i64 t108_53 : Value)) hp77 hS 23 (.pointer (some (a_64.add (Int.toNat t108_53))) : Value) rfl (wanted_none rfl) rfl rfl (by kernel_rfl) (by kernel_rfl) (fun _ _ => run_ixa1 (el := 23) (by kernel_rfl) (by kernel_rfl) hx81a hx81b) fun hS => ?_
        obtain ⟨t147_65, hx82, h⟩ := h
        refine t_add ⟨24, [], fun wx => wx.cell? (a_64.add (Int.toNat t108_53)) = some (.int .u32 t147_65)⟩ ?_
        replace hS := SF_on (x := ⟨24, [], fun wx => wx.cell? (a_64.add (Int.toNat t108_53)) = some (.int .u32 t147_65)⟩) hx82 hS
        refine t_v (s := Instr.loadAt 23 (.pointer (some (a_64.add (Int.toNat t108_53))))) hp77 hS 24 (.int .u32 t147_65 : Value) rfl (wanted_none rfl) rfl rfl (by kernel_rfl) (by kernel_rfl) (fun _ hw => rn_load (by kernel_rfl) (Sw.fact (List.Mem.head _) rfl hw)) fun hS => ?_
        refine t_kw hp77 hS 26 (.int .i64 t108_53 : Value) rfl (wanted_none rfl) rfl rfl (by kernel_rfl) (fun _ _ => by kernel_rfl) fun hS => ?_
        obtain ⟨hx83a, hx83b, h⟩ := h
        refine t_v (s := Instr.indexAt 96 (.pointer (some (⟨w_12.heap.size, 0, none⟩ : Addr)) : Value) (.int .i64 t108_53 : Value)) hp77 hS 27 (.pointer (some ((⟨w_12.heap.size, 0, none⟩ : Addr).add (Int.toNat t108_53))) : Value) rfl (wanted_none rfl) rfl rfl (by kernel_rfl) (by kernel_rfl) (fun _ _ => run_ixa1 (el := 23) (by kernel_rfl) (by kernel_rfl) hx83a hx83b) fun hS => ?_
        obtain ⟨t151_66, hx84, h⟩ := h
        refine t_add ⟨28, [], fun wx => wx.cell? ((⟨w_12.heap.size, 0, none⟩ : Addr).add (Int.toNat t108_53)) = some (.int .u32 t151_66)⟩ ?_
        replace hS := SF_on (x := ⟨28, [], fun wx => wx.cell? ((⟨w_12.heap.size, 0, none⟩ : Addr).add (Int.toNat t108_53)) = some (.int .u32 t151_66)⟩) hx84 hS
        refine t_v (s := Instr.loadAt 23 (.pointer (some ((⟨w_12.heap.size, 0, none⟩ : Addr).add (Int.toNat t108_53))))) hp77 hS 28 (.int .u32 t151_66 : Value) rfl (wanted_none rfl) rfl rfl (by kernel_rfl) (by kernel_rfl) (fun _ hw => rn_load (by kernel_rfl) (Sw.fact (List.Mem.head _) rfl hw)) fun hS => ?_
        refine t_call 3 (by kernel_rfl) rfl (wanted_none rfl) rfl rfl (by kernel_rfl) (h.mono ?_)
        rintro _ w_68 ⟨t126_67, rfl, hx85, hx86, hx87, h⟩
        refine ⟨_, rfl, (SF_on hx85 (SF_on hx86 (SF_on hx87 SF_nil))), fun hS => ?_⟩
        refine t_call 5 (by kernel_rfl) rfl (wanted_none rfl) rfl rfl (by kernel_rfl) (h.mono ?_)
        rintro _ w_70 ⟨t128_69, rfl, hx88, hx89, hx90, h⟩
        refine ⟨_, rfl, (SF_on hx88 (SF_on hx89 (SF_on hx90 SF_nil))), fun hS => ?_⟩
        refine t_kw hp77 hS 6 (.int .u32 (ibits .xor .u32 t126_67 t128_69) : Value) rfl (wanted_none rfl) rfl rfl (by kernel_rfl) (fun _ _ => by kernel_rfl) fun hS => ?_
        refine t_call 8 (by kernel_rfl) rfl (wanted_none rfl) rfl rfl (by kernel_rfl) (h.mono ?_)
        rintro _ w_72 ⟨t131_71, rfl, hx91, hx92, hx93, h⟩
        refine ⟨_, rfl, (SF_on hx91 (SF_on hx92 (SF_on hx93 SF_nil))), fun hS => ?_⟩
        refine t_kw hp77 hS 9 (.int .u32 (ibits .xor .u32 (ibits .xor .u32 t126_67 t128_69) t131_71) : Value) rfl (wanted_none rfl) rfl rfl (by kernel_rfl) (fun _ _ => by kernel_rfl) fun hS => ?_
        refine t_kw hp77 hS 10 (.int .u32 (IntKind.u32.wrap (t124_63 + (ibits .xor .u32 (ibits .xor .u32 t126_67 t128_69) t131_71))) : Value) rfl (wanted_none rfl) rfl rfl (by kernel_rfl) (fun _ _ => by kernel_rfl) fun hS => ?_
        refine t_kw hp77 hS 19 (.int .u32 (IntKind.u32.wrap ((IntKind.u32.wrap (t124_63 + (ibits .xor .u32 (ibits .xor .u32 t126_67 t128_69) t131_71))) + (ibits .xor .u32 (ibits .and .u32 t118_58 t120_59) (ibits .and .u32 (ibits .xor .u32 4294967295 t118_58) t122_60)))) : Value) rfl (wanted_none rfl) rfl rfl (by kernel_rfl) (fun _ _ => by kernel_rfl) fun hS => ?_
        refine t_kw hp77 hS 25 (.int .u32 (IntKind.u32.wrap ((IntKind.u32.wrap ((IntKind.u32.wrap (t124_63 + (ibits .xor .u32 (ibits .xor .u32 t126_67 t128_69) t131_71))) + (ibits .xor .u32 (ibits .and .u32 t118_58 t120_59) (ibits .and .u32 (ibits .xor .u32 4294967295 t118_58) t122_60)))) + t147_65)) : Value) rfl (wanted_none rfl) rfl rfl (by kernel_rfl) (fun _ _ => by kernel_rfl) fun hS => ?_
        refine t_kw hp77 hS 29 (.int .u32 (IntKind.u32.wrap ((IntKind.u32.wrap ((IntKind.u32.wrap ((IntKind.u32.wrap (t124_63 + (ibits .xor .u32 (ibits .xor .u32 t126_67 t128_69) t131_71))) + (ibits .xor .u32 (ibits .and .u32 t118_58 t120_59) (ibits .and .u32 (ibits .xor .u32 4294967295 t118_58) t122_60)))) + t147_65)) + t151_66)) : Value) rfl (wanted_none rfl) rfl rfl (by kernel_rfl) (fun _ _ => by kernel_rfl) fun hS => ?_
        refine t_kw hp77 hS 30 (.int .u32 (IntKind.u32.wrap ((IntKind.u32.wrap ((IntKind.u32.wrap ((IntKind.u32.wrap (t124_63 + (ibits .xor .u32 (ibits .xor .u32 t126_67 t128_69) t131_71))) + (ibits .xor .u32 (ibits .and .u32 t118_58 t120_59) (ibits .and .u32 (ibits .xor .u32 4294967295 t118_58) t122_60)))) + t147_65)) + t151_66)) : Value) rfl (wanted_none rfl) rfl rfl (by kernel_rfl) (fun _ _ => by kernel_rfl) fun hS => ?_
        refine t_done (by kernel_rfl) (hE77 _ _ ?_)
        refine y_then (hK76 _ _ ?_)
        refine y_seq fun K94 hK94 => ?_
        refine y_region ?_
        refine y_k (.int .u32 t112_55 : Value) w_72 rfl rfl rfl (by kernel_rfl) ?_
        refine y_call rfl rfl rfl (by kernel_rfl) (h.mono ?_)
        rintro _ w_74 ⟨t154_73, rfl, h⟩
        refine ⟨_, rfl, ?_⟩
        refine y_k (.int .u32 t112_55 : Value) w_74 rfl rfl rfl (by kernel_rfl) ?_
        refine y_call rfl rfl rfl (by kernel_rfl) (h.mono ?_)
        rintro _ w_76 ⟨t156_75, rfl, h⟩
        refine ⟨_, rfl, ?_⟩
        refine y_k (.int .u32 (ibits .xor .u32 t154_73 t156_75) : Value) w_76 rfl rfl rfl (by kernel_rfl) ?_
        refine y_k (.int .u32 t112_55 : Value) w_76 rfl rfl rfl (by kernel_rfl) ?_
        refine y_call rfl rfl rfl (by kernel_rfl) (h.mono ?_)
        rintro _ w_78 ⟨t159_77, rfl, h⟩
        refine ⟨_, rfl, ?_⟩
        refine y_k (.int .u32 (ibits .xor .u32 (ibits .xor .u32 t154_73 t156_75) t159_77) : Value) w_78 rfl rfl rfl (by kernel_rfl) ?_
        refine y_k (.int .u32 t112_55 : Value) w_78 rfl rfl rfl (by kernel_rfl) ?_
        refine y_k (.int .u32 t114_56 : Value) w_78 rfl rfl rfl (by kernel_rfl) ?_
        refine y_k (.int .u32 (ibits .and .u32 t112_55 t114_56) : Value) w_78 rfl rfl rfl (by kernel_rfl) ?_
        refine y_k (.int .u32 t112_55 : Value) w_78 rfl rfl rfl (by kernel_rfl) ?_
        refine y_k (.int .u32 t116_57 : Value) w_78 rfl rfl rfl (by kernel_rfl) ?_
        refine y_k (.int .u32 (ibits .and .u32 t112_55 t116_57) : Value) w_78 rfl rfl rfl (by kernel_rfl) ?_
        refine y_k (.int .u32 (ibits .xor .u32 (ibits .and .u32 t112_55 t114_56) (ibits .and .u32 t112_55 t116_57)) : Value) w_78 rfl rfl rfl (by kernel_rfl) ?_
        refine y_k (.int .u32 t114_56 : Value) w_78 rfl rfl rfl (by kernel_rfl) ?_
        refine y_k (.int .u32 t116_57 : Value) w_78 rfl rfl rfl (by kernel_rfl) ?_
        refine y_k (.int .u32 (ibits .and .u32 t114_56 t116_57) : Value) w_78 rfl rfl rfl (by kernel_rfl) ?_
        refine y_k (.int .u32 (ibits .xor .u32 (ibits .xor .u32 (ibits .and .u32 t112_55 t114_56) (ibits .and .u32 t112_55 t116_57)) (ibits .and .u32 t114_56 t116_57)) : Value) w_78 rfl rfl rfl (by kernel_rfl) ?_
        refine y_k (.int .u32 (IntKind.u32.wrap ((ibits .xor .u32 (ibits .xor .u32 t154_73 t156_75) t159_77) + (ibits .xor .u32 (ibits .xor .u32 (ibits .and .u32 t112_55 t114_56) (ibits .and .u32 t112_55 t116_57)) (ibits .and .u32 t114_56 t116_57)))) : Value) w_78 rfl rfl rfl (by kernel_rfl) ?_
        refine y_k (.int .u32 (IntKind.u32.wrap ((ibits .xor .u32 (ibits .xor .u32 t154_73 t156_75) t159_77) + (ibits .xor .u32 (ibits .xor .u32 (ibits .and .u32 t112_55 t114_56) (ibits .and .u32 t112_55 t116_57)) (ibits .and .u32 t114_56 t116_57)))) : Value) w_78 rfl rfl rfl (by kernel_rfl) ?_
        refine y_nil ?_
        refine y_then (hK94 _ _ ?_)
        refine y_region ?_
        refine y_k (.int .u32 (IntKind.u32.wrap ((IntKind.u32.wrap ((IntKind.u32.wrap ((IntKind.u32.wrap (t124_63 + (ibits .xor .u32 (ibits .xor .u32 t126_67 t128_69) t131_71))) + (ibits .xor .u32 (ibits .and .u32 t118_58 t120_59) (ibits .and .u32 (ibits .xor .u32 4294967295 t118_58) t122_60)))) + t147_65)) + t151_66)) : Value) w_78 rfl rfl rfl (by kernel_rfl) ?_
        refine y_k (.int .u32 (IntKind.u32.wrap ((ibits .xor .u32 (ibits .xor .u32 t154_73 t156_75) t159_77) + (ibits .xor .u32 (ibits .xor .u32 (ibits .and .u32 t112_55 t114_56) (ibits .and .u32 t112_55 t116_57)) (ibits .and .u32 t114_56 t116_57)))) : Value) w_78 rfl rfl rfl (by kernel_rfl) ?_
        refine y_k (.int .u32 (IntKind.u32.wrap ((IntKind.u32.wrap ((IntKind.u32.wrap ((IntKind.u32.wrap ((IntKind.u32.wrap (t124_63 + (ibits .xor .u32 (ibits .xor .u32 t126_67 t128_69) t131_71))) + (ibits .xor .u32 (ibits .and .u32 t118_58 t120_59) (ibits .and .u32 (ibits .xor .u32 4294967295 t118_58) t122_60)))) + t147_65)) + t151_66)) + (IntKind.u32.wrap ((ibits .xor .u32 (ibits .xor .u32 t154_73 t156_75) t159_77) + (ibits .xor .u32 (ibits .xor .u32 (ibits .and .u32 t112_55 t114_56) (ibits .and .u32 t112_55 t116_57)) (ibits .and .u32 t114_56 t116_57)))))) : Value) w_78 rfl rfl rfl (by kernel_rfl) ?_
        refine y_k (.int .u32 t112_55 : Value) w_78 rfl rfl rfl (by kernel_rfl) ?_
        refine y_k (.int .u32 t114_56 : Value) w_78 rfl rfl rfl (by kernel_rfl) ?_
        refine y_k (.int .u32 t116_57 : Value) w_78 rfl rfl rfl (by kernel_rfl) ?_
        refine y_k (.pointer (some ((⟨w_27.heap.size, 0, none⟩ : Addr).add 3)) : Value) w_78 rfl rfl rfl (by kernel_rfl) ?_
        obtain ⟨t180_79, hx96, h⟩ := h
        refine y_v (s := Instr.loadAt 23 (.pointer (some ((⟨w_27.heap.size, 0, none⟩ : Addr).add 3)))) rfl rfl rfl (by kernel_rfl) (rn_load (by kernel_rfl) hx96) ?_
        refine y_k (.int .u32 (IntKind.u32.wrap ((IntKind.u32.wrap ((IntKind.u32.wrap ((IntKind.u32.wrap (t124_63 + (ibits .xor .u32 (ibits .xor .u32 t126_67 t128_69) t131_71))) + (ibits .xor .u32 (ibits .and .u32 t118_58 t120_59) (ibits .and .u32 (ibits .xor .u32 4294967295 t118_58) t122_60)))) + t147_65)) + t151_66)) : Value) w_78 rfl rfl rfl (by kernel_rfl) ?_
        refine y_k (.int .u32 (IntKind.u32.wrap (t180_79 + (IntKind.u32.wrap ((IntKind.u32.wrap ((IntKind.u32.wrap ((IntKind.u32.wrap (t124_63 + (ibits .xor .u32 (ibits .xor .u32 t126_67 t128_69) t131_71))) + (ibits .xor .u32 (ibits .and .u32 t118_58 t120_59) (ibits .and .u32 (ibits .xor .u32 4294967295 t118_58) t122_60)))) + t147_65)) + t151_66)))) : Value) w_78 rfl rfl rfl (by kernel_rfl) ?_
        refine y_k (.int .u32 t118_58 : Value) w_78 rfl rfl rfl (by kernel_rfl) ?_
        refine y_k (.int .u32 t120_59 : Value) w_78 rfl rfl rfl (by kernel_rfl) ?_
        refine y_k (.int .u32 t122_60 : Value) w_78 rfl rfl rfl (by kernel_rfl) ?_
        refine y_k (.agg #[.int .u32 (IntKind.u32.wrap ((IntKind.u32.wrap ((IntKind.u32.wrap ((IntKind.u32.wrap ((IntKind.u32.wrap (t124_63 + (ibits .xor .u32 (ibits .xor .u32 t126_67 t128_69) t131_71))) + (ibits .xor .u32 (ibits .and .u32 t118_58 t120_59) (ibits .and .u32 (ibits .xor .u32 4294967295 t118_58) t122_60)))) + t147_65)) + t151_66)) + (IntKind.u32.wrap ((ibits .xor .u32 (ibits .xor .u32 t154_73 t156_75) t159_77) + (ibits .xor .u32 (ibits .xor .u32 (ibits .and .u32 t112_55 t114_56) (ibits .and .u32 t112_55 t116_57)) (ibits .and .u32 t114_56 t116_57)))))), .int .u32 t112_55, .int .u32 t114_56, .int .u32 t116_57, .int .u32 (IntKind.u32.wrap (t180_79 + (IntKind.u32.wrap ((IntKind.u32.wrap ((IntKind.u32.wrap ((IntKind.u32.wrap (t124_63 + (ibits .xor .u32 (ibits .xor .u32 t126_67 t128_69) t131_71))) + (ibits .xor .u32 (ibits .and .u32 t118_58 t120_59) (ibits .and .u32 (ibits .xor .u32 4294967295 t118_58) t122_60)))) + t147_65)) + t151_66)))), .int .u32 t118_58, .int .u32 t120_59, .int .u32 t122_60] : Value) w_78 rfl rfl rfl (by kernel_rfl) ?_
        obtain ⟨hx97, h⟩ := h
        replace h := h _ rfl
        refine y_u (s := Instr.storeAt 94 (.pointer (some (⟨w_27.heap.size, 0, none⟩ : Addr))) (.agg #[.int .u32 (IntKind.u32.wrap ((IntKind.u32.wrap ((IntKind.u32.wrap ((IntKind.u32.wrap ((IntKind.u32.wrap (t124_63 + (ibits .xor .u32 (ibits .xor .u32 t126_67 t128_69) t131_71))) + (ibits .xor .u32 (ibits .and .u32 t118_58 t120_59) (ibits .and .u32 (ibits .xor .u32 4294967295 t118_58) t122_60)))) + t147_65)) + t151_66)) + (IntKind.u32.wrap ((ibits .xor .u32 (ibits .xor .u32 t154_73 t156_75) t159_77) + (ibits .xor .u32 (ibits .xor .u32 (ibits .and .u32 t112_55 t114_56) (ibits .and .u32 t112_55 t116_57)) (ibits .and .u32 t114_56 t116_57)))))), .int .u32 t112_55, .int .u32 t114_56, .int .u32 t116_57, .int .u32 (IntKind.u32.wrap (t180_79 + (IntKind.u32.wrap ((IntKind.u32.wrap ((IntKind.u32.wrap ((IntKind.u32.wrap (t124_63 + (ibits .xor .u32 (ibits .xor .u32 t126_67 t128_69) t131_71))) + (ibits .xor .u32 (ibits .and .u32 t118_58 t120_59) (ibits .and .u32 (ibits .xor .u32 4294967295 t118_58) t122_60)))) + t147_65)) + t151_66)))), .int .u32 t118_58, .int .u32 t120_59, .int .u32 t122_60] : Value)) rfl rfl (by kernel_rfl) (rn_storecells (k := 8) (cs := [.int .u32 (IntKind.u32.wrap ((IntKind.u32.wrap ((IntKind.u32.wrap ((IntKind.u32.wrap ((IntKind.u32.wrap (t124_63 + (ibits .xor .u32 (ibits .xor .u32 t126_67 t128_69) t131_71))) + (ibits .xor .u32 (ibits .and .u32 t118_58 t120_59) (ibits .and .u32 (ibits .xor .u32 4294967295 t118_58) t122_60)))) + t147_65)) + t151_66)) + (IntKind.u32.wrap ((ibits .xor .u32 (ibits .xor .u32 t154_73 t156_75) t159_77) + (ibits .xor .u32 (ibits .xor .u32 (ibits .and .u32 t112_55 t114_56) (ibits .and .u32 t112_55 t116_57)) (ibits .and .u32 t114_56 t116_57)))))), .int .u32 t112_55, .int .u32 t114_56, .int .u32 t116_57, .int .u32 (IntKind.u32.wrap (t180_79 + (IntKind.u32.wrap ((IntKind.u32.wrap ((IntKind.u32.wrap ((IntKind.u32.wrap (t124_63 + (ibits .xor .u32 (ibits .xor .u32 t126_67 t128_69) t131_71))) + (ibits .xor .u32 (ibits .and .u32 t118_58 t120_59) (ibits .and .u32 (ibits .xor .u32 4294967295 t118_58) t122_60)))) + t147_65)) + t151_66)))), .int .u32 t118_58, .int .u32 t120_59, .int .u32 t122_60]) (by kernel_rfl) rfl (by simp [Value.oneCell']) hx97) ?_
        generalize setCells w_78 (⟨w_27.heap.size, 0, none⟩ : Addr) 0 [.int .u32 (IntKind.u32.wrap ((IntKind.u32.wrap ((IntKind.u32.wrap ((IntKind.u32.wrap ((IntKind.u32.wrap (t124_63 + (ibits .xor .u32 (ibits .xor .u32 t126_67 t128_69) t131_71))) + (ibits .xor .u32 (ibits .and .u32 t118_58 t120_59) (ibits .and .u32 (ibits .xor .u32 4294967295 t118_58) t122_60)))) + t147_65)) + t151_66)) + (IntKind.u32.wrap ((ibits .xor .u32 (ibits .xor .u32 t154_73 t156_75) t159_77) + (ibits .xor .u32 (ibits .xor .u32 (ibits .and .u32 t112_55 t114_56) (ibits .and .u32 t112_55 t116_57)) (ibits .and .u32 t114_56 t116_57)))))), .int .u32 t112_55, .int .u32 t114_56, .int .u32 t116_57, .int .u32 (IntKind.u32.wrap (t180_79 + (IntKind.u32.wrap ((IntKind.u32.wrap ((IntKind.u32.wrap ((IntKind.u32.wrap (t124_63 + (ibits .xor .u32 (ibits .xor .u32 t126_67 t128_69) t131_71))) + (ibits .xor .u32 (ibits .and .u32 t118_58 t120_59) (ibits .and .u32 (ibits .xor .u32 4294967295 t118_58) t122_60)))) + t147_65)) + t151_66)))), .int .u32 t118_58, .int .u32 t120_59, .int .u32 t122_60] = w_80 at h ⊢
        refine y_nil ?_
        refine e_block_n ?_
        refine y_then (hK59 _ _ ?_)
        refine y_region ?_
        refine y_k (.int .i64 (IntKind.i64.wrap (t108_53 + 1)) : Value) w_80 rfl rfl rfl (by kernel_rfl) ?_
        refine y_k (.int .i64 (IntKind.i64.wrap (t108_53 + 1)) : Value) w_80 rfl rfl rfl (by kernel_rfl) ?_
        refine y_nil ?_
        refine y_then (hN56 (IntKind.i64.wrap (t108_53 + 1)) _ _ h ?_)
        dsimp only
        refine upd_id ?_ rfl
        refine upd_id ?_ rfl
        refine upd_id ?_ rfl
        refine upd_id ?_ rfl
        refine upd_id ?_ rfl
        refine upd_id ?_ rfl
        rfl
      · replace h := h.2 (of_decide_eq_false hb121)
        refine y_exit ?_
        repeat (first | refine e_then_x ?_ | refine e_block_y rfl ?_)
        refine e_block_x ?_
        refine y_then (hK52 _ _ ?_)
        refine y_seq fun K99 hK99 => ?_
        refine y_seq fun K100 hK100 => ?_
        refine y_region ?_
        refine y_k (.int .i64 0 : Value) w_54 rfl rfl rfl (by kernel_rfl) ?_
        refine y_nil ?_
        refine y_then (hK100 _ _ ?_)
        refine y_block ?_
        refine y_loop (S := Int) (fun s j => match s with | (t188_81) => upd (upd (upd (upd (j) 3 (.pointer (some (⟨w.heap.size, 0, none⟩ : Addr)) : Value)) 6 (.pointer (some (⟨w_11.heap.size, 0, none⟩ : Addr)) : Value)) 14 (.pointer (some (⟨w_27.heap.size, 0, none⟩ : Addr)) : Value)) 188 (.int .i64 t188_81 : Value)) (0) ?_ h ?_
        · dsimp only
          refine upd_id ?_ rfl
          refine upd_id ?_ rfl
          refine upd_id ?_ rfl
          refine upd_id ?_ rfl
          rfl
        rintro KN103 next102 hN103 t188_81 j w_82 h
        unfold F79_l4 at h
        refine y_seq fun K104 hK104 => ?_
        refine y_region ?_
        refine y_k (.bool (decide (t188_81 < 8)) : Value) w_82 rfl rfl rfl (by kernel_rfl) ?_
        refine y_nil ?_
        refine y_then (hK104 _ _ ?_)
        refine y_seq fun K105 hK105 => ?_
        refine y_cond (decide (t188_81 < 8)) rfl rfl (fun hb120 => ?_) (fun hb120 => ?_)
        · replace h := h.1 (of_decide_eq_true hb120)
          refine y_skip ?_
          refine y_then (hK105 _ _ ?_)
          refine y_seq fun K106 hK106 => ?_
          refine y_block ?_
          refine y_seq fun K108 hK108 => ?_
          refine y_region ?_
          refine y_k (.int .i64 t188_81 : Value) w_82 rfl rfl rfl (by kernel_rfl) ?_
          refine y_k (.int .i64 t188_81 : Value) w_82 rfl rfl rfl (by kernel_rfl) ?_
          refine y_nil ?_
          refine y_then (hK108 _ _ ?_)
          obtain ⟨w_83, hwd109⟩ : ∃ wd : World, wd = w_82.drew := ⟨_, rfl⟩
          replace h := h _ hwd109
          refine t_region (wd := w_83) [] (by kernel_rfl) hwd109 SF_nil fun Q109 hE109 hp109 hS => ?_
          clear hwd109
          refine t_kw hp109 hS 0 (.int .i64 t188_81 : Value) rfl (wanted_none rfl) rfl rfl (by kernel_rfl) (fun _ _ => by kernel_rfl) fun hS => ?_
          obtain ⟨hx110a, hx110b, h⟩ := h
          refine t_v (s := Instr.indexAt 94 (.pointer (some (⟨w.heap.size, 0, none⟩ : Addr)) : Value) (.int .i64 t188_81 : Value)) hp109 hS 1 (.pointer (some ((⟨w.heap.size, 0, none⟩ : Addr).add (Int.toNat t188_81))) : Value) rfl (wanted_none rfl) rfl rfl (by kernel_rfl) (by kernel_rfl) (fun _ _ => run_ixa1 (el := 23) (by kernel_rfl) (by kernel_rfl) hx110a hx110b) fun hS => ?_
          obtain ⟨t193_84, hx111, h⟩ := h
          refine t_add ⟨2, [8], fun wx => wx.cell? ((⟨w.heap.size, 0, none⟩ : Addr).add (Int.toNat t188_81)) = some (.int .u32 t193_84)⟩ ?_
          replace hS := SF_on (x := ⟨2, [8], fun wx => wx.cell? ((⟨w.heap.size, 0, none⟩ : Addr).add (Int.toNat t188_81)) = some (.int .u32 t193_84)⟩) hx111 hS
          refine t_v (s := Instr.loadAt 23 (.pointer (some ((⟨w.heap.size, 0, none⟩ : Addr).add (Int.toNat t188_81))))) hp109 hS 2 (.int .u32 t193_84 : Value) rfl (wanted_none rfl) rfl rfl (by kernel_rfl) (by kernel_rfl) (fun _ hw => rn_load (by kernel_rfl) (Sw.fact (List.Mem.head _) rfl hw)) fun hS => ?_
          refine t_kw hp109 hS 3 (.int .i64 t188_81 : Value) rfl (wanted_none rfl) rfl rfl (by kernel_rfl) (fun _ _ => by kernel_rfl) fun hS => ?_
          obtain ⟨hx112a, hx112b, h⟩ := h
          refine t_v (s := Instr.indexAt 94 (.pointer (some (⟨w_27.heap.size, 0, none⟩ : Addr)) : Value) (.int .i64 t188_81 : Value)) hp109 hS 4 (.pointer (some ((⟨w_27.heap.size, 0, none⟩ : Addr).add (Int.toNat t188_81))) : Value) rfl (wanted_none rfl) rfl rfl (by kernel_rfl) (by kernel_rfl) (fun _ _ => run_ixa1 (el := 23) (by kernel_rfl) (by kernel_rfl) hx112a hx112b) fun hS => ?_
          obtain ⟨t196_85, hx113, h⟩ := h
          refine t_add ⟨5, [8], fun wx => wx.cell? ((⟨w_27.heap.size, 0, none⟩ : Addr).add (Int.toNat t188_81)) = some (.int .u32 t196_85)⟩ ?_
          replace hS := SF_on (x := ⟨5, [8], fun wx => wx.cell? ((⟨w_27.heap.size, 0, none⟩ : Addr).add (Int.toNat t188_81)) = some (.int .u32 t196_85)⟩) hx113 hS
          refine t_v (s := Instr.loadAt 23 (.pointer (some ((⟨w_27.heap.size, 0, none⟩ : Addr).add (Int.toNat t188_81))))) hp109 hS 5 (.int .u32 t196_85 : Value) rfl (wanted_none rfl) rfl rfl (by kernel_rfl) (by kernel_rfl) (fun _ hw => rn_load (by kernel_rfl) (Sw.fact (List.Mem.head _) rfl hw)) fun hS => ?_
          refine t_kw hp109 hS 6 (.int .u32 (IntKind.u32.wrap (t193_84 + t196_85)) : Value) rfl (wanted_none rfl) rfl rfl (by kernel_rfl) (fun _ _ => by kernel_rfl) fun hS => ?_
          obtain ⟨hx114a, hx114b, h⟩ := h
          refine t_v (s := Instr.indexAt 94 (.pointer (some (⟨w.heap.size, 0, none⟩ : Addr)) : Value) (.int .i64 t188_81 : Value)) hp109 hS 7 (.pointer (some ((⟨w.heap.size, 0, none⟩ : Addr).add (Int.toNat t188_81))) : Value) rfl (wanted_none rfl) rfl rfl (by kernel_rfl) (by kernel_rfl) (fun _ _ => run_ixa1 (el := 23) (by kernel_rfl) (by kernel_rfl) hx114a hx114b) fun hS => ?_
          obtain ⟨hx115, h⟩ := h
          replace h := h _ rfl
          refine t_u 8 (s := Instr.storeAt 23 (.pointer (some ((⟨w.heap.size, 0, none⟩ : Addr).add (Int.toNat t188_81)))) (.int .u32 (IntKind.u32.wrap (t193_84 + t196_85)) : Value)) (by kernel_rfl) rfl (wanted_none rfl) rfl (by kernel_rfl) (rn_store1 (by kernel_rfl) rfl hx115) (SF_off (by kernel_rfl) (by kernel_rfl) (SF_off (by kernel_rfl) (by kernel_rfl) SF_nil)) fun hS => ?_
          generalize w_83.setCell ((⟨w.heap.size, 0, none⟩ : Addr).add (Int.toNat t188_81)) (.int .u32 (IntKind.u32.wrap (t193_84 + t196_85)) : Value) = w_86 at hS h ⊢
          refine t_done (by kernel_rfl) (hE109 _ _ ?_)
          refine e_block_n ?_
          refine y_then (hK106 _ _ ?_)
          refine y_region ?_
          refine y_k (.int .i64 (IntKind.i64.wrap (t188_81 + 1)) : Value) w_86 rfl rfl rfl (by kernel_rfl) ?_
          refine y_k (.int .i64 (IntKind.i64.wrap (t188_81 + 1)) : Value) w_86 rfl rfl rfl (by kernel_rfl) ?_
          refine y_nil ?_
          refine y_then (hN103 (IntKind.i64.wrap (t188_81 + 1)) _ _ h ?_)
          dsimp only
          refine upd_id ?_ rfl
          refine upd_id ?_ rfl
          refine upd_id ?_ rfl
          refine upd_id ?_ rfl
          rfl
        · replace h := h.2 (of_decide_eq_false hb120)
          refine y_exit ?_
          repeat (first | refine e_then_x ?_ | refine e_block_y rfl ?_)
          refine e_block_x ?_
          refine y_then (hK99 _ _ ?_)
          refine y_seq fun K116 hK116 => ?_
          refine y_region ?_
          obtain ⟨t200_87, t200_88, t200_89, t200_90, t200_91, t200_92, t200_93, t200_94, hx117, h⟩ := h
          refine y_v (s := Instr.loadAt 94 (.pointer (some (⟨w.heap.size, 0, none⟩ : Addr)))) rfl rfl rfl (by kernel_rfl) (rn_loadcells (k := 8) ⟨by kernel_rfl, by kernel_rfl⟩ rfl hx117) ?_
          obtain ⟨hx118, h⟩ := h
          replace h := h _ rfl
          refine y_u (s := Instr.storeAt 94 (.pointer (some (⟨w_11.heap.size, 0, none⟩ : Addr))) (.agg #[.int .u32 t200_87, .int .u32 t200_88, .int .u32 t200_89, .int .u32 t200_90, .int .u32 t200_91, .int .u32 t200_92, .int .u32 t200_93, .int .u32 t200_94] : Value)) rfl rfl (by kernel_rfl) (rn_storecells (k := 8) (cs := [.int .u32 t200_87, .int .u32 t200_88, .int .u32 t200_89, .int .u32 t200_90, .int .u32 t200_91, .int .u32 t200_92, .int .u32 t200_93, .int .u32 t200_94]) (by kernel_rfl) rfl (by simp [Value.oneCell']) hx118) ?_
          generalize setCells w_82 (⟨w_11.heap.size, 0, none⟩ : Addr) 0 [.int .u32 t200_87, .int .u32 t200_88, .int .u32 t200_89, .int .u32 t200_90, .int .u32 t200_91, .int .u32 t200_92, .int .u32 t200_93, .int .u32 t200_94] = w_95 at h ⊢
          refine y_nil ?_
          refine y_then (hK116 _ _ ?_)
          refine y_ret ?_
          repeat (first | refine e_then_r ?_ | refine e_block_r ?_)
          obtain ⟨r0_96, r0_97, r0_98, r0_99, r0_100, r0_101, r0_102, r0_103, hx119, h⟩ := h
          exact (hQ0 _ _ _ (rs1 rfl (rs_cell (v := (.agg #[.int .u32 r0_96, .int .u32 r0_97, .int .u32 r0_98, .int .u32 r0_99, .int .u32 r0_100, .int .u32 r0_101, .int .u32 r0_102, .int .u32 r0_103] : Value)) (ad := (⟨w_11.heap.size, 0, none⟩ : Addr)) rfl rfl (rn_loadcells (k := 8) ⟨by kernel_rfl, by kernel_rfl⟩ rfl hx119))) ⟨_, _, _, _, _, _, _, _, rfl, h⟩).1

def F77_l4 (K : Int → Int → Int → Int → Int → Int → Int → Int → World → Prop) (w : World) (w_10 : World) (w_42 : World) (next171 : (Int) → World → Prop) : (Int) → World → Prop := fun (i15_97) w_98 =>
  ((i15_97 < 8 →
  ∀ (w_99 : World), w_99 = w_98.drew →
  (0 : Int) ≤ i15_97 ∧ i15_97 < 8 ∧
  ∃ (t194_100 : Int), w_99.cell? ((⟨w.heap.size, 0, none⟩ : Addr).add (Int.toNat i15_97)) = some (.int .u32 t194_100) ∧
  (0 : Int) ≤ i15_97 ∧ i15_97 < 8 ∧
  ∃ (t197_101 : Int), w_99.cell? ((⟨w_42.heap.size, 0, none⟩ : Addr).add (Int.toNat i15_97)) = some (.int .u32 t197_101) ∧
  (0 : Int) ≤ i15_97 ∧ i15_97 < 8 ∧
  HasCell w_99 ((⟨w.heap.size, 0, none⟩ : Addr).add (Int.toNat i15_97)) ∧ ∀ (w_102 : World), w_102 = w_99.setCell ((⟨w.heap.size, 0, none⟩ : Addr).add (Int.toNat i15_97)) (.int .u32 (IntKind.u32.wrap (t194_100 + t197_101)) : Value) → 
  next171 (IntKind.i64.wrap (i15_97 + 1)) w_102) ∧
  (¬ (i15_97 < 8) →
  ∃ (t200_103 : Int), ∃ (t200_104 : Int), ∃ (t200_105 : Int), ∃ (t200_106 : Int), ∃ (t200_107 : Int), ∃ (t200_108 : Int), ∃ (t200_109 : Int), ∃ (t200_110 : Int), CellsAt w_98 (⟨w.heap.size, 0, none⟩ : Addr) 0 [.int .u32 t200_103, .int .u32 t200_104, .int .u32 t200_105, .int .u32 t200_106, .int .u32 t200_107, .int .u32 t200_108, .int .u32 t200_109, .int .u32 t200_110] ∧
  HasCells w_98 (⟨w_10.heap.size, 0, none⟩ : Addr) 0 8 ∧ ∀ (w_111 : World), w_111 = setCells w_98 (⟨w_10.heap.size, 0, none⟩ : Addr) 0 [.int .u32 t200_103, .int .u32 t200_104, .int .u32 t200_105, .int .u32 t200_106, .int .u32 t200_107, .int .u32 t200_108, .int .u32 t200_109, .int .u32 t200_110] →
  ∃ (r0_112 : Int), ∃ (r0_113 : Int), ∃ (r0_114 : Int), ∃ (r0_115 : Int), ∃ (r0_116 : Int), ∃ (r0_117 : Int), ∃ (r0_118 : Int), ∃ (r0_119 : Int), CellsAt w_111 (⟨w_10.heap.size, 0, none⟩ : Addr) 0 [.int .u32 r0_112, .int .u32 r0_113, .int .u32 r0_114, .int .u32 r0_115, .int .u32 r0_116, .int .u32 r0_117, .int .u32 r0_118, .int .u32 r0_119] ∧
  K r0_112 r0_113 r0_114 r0_115 r0_116 r0_117 r0_118 r0_119 w_111))
def F77_l3 (K : Int → Int → Int → Int → Int → Int → Int → Int → World → Prop) (w : World) (w_10 : World) (w_11 : World) (t96_41 : Sl) (w_42 : World) (next60 : (Int) → World → Prop) : (Int) → World → Prop := fun (i12_53) w_54 =>
  ((i12_53 < 64 →
  ∀ (w_55 : World), w_55 = w_54.drew →
  ∃ (t103_56 : Int), w_55.cell? ((⟨w_42.heap.size, 0, none⟩ : Addr).add 7) = some (.int .u32 t103_56) ∧
  ∃ (t105_57 : Int), w_55.cell? ((⟨w_42.heap.size, 0, none⟩ : Addr).add 4) = some (.int .u32 t105_57) ∧
  ∃ (t108_58 : Int), w_55.cell? ((⟨w_42.heap.size, 0, none⟩ : Addr).add 4) = some (.int .u32 t108_58) ∧
  ∃ (t112_59 : Int), w_55.cell? ((⟨w_42.heap.size, 0, none⟩ : Addr).add 4) = some (.int .u32 t112_59) ∧
  ∃ (t117_60 : Int), w_55.cell? ((⟨w_42.heap.size, 0, none⟩ : Addr).add 4) = some (.int .u32 t117_60) ∧
  ∃ (t119_61 : Int), w_55.cell? ((⟨w_42.heap.size, 0, none⟩ : Addr).add 5) = some (.int .u32 t119_61) ∧
  ∃ (t122_62 : Int), w_55.cell? ((⟨w_42.heap.size, 0, none⟩ : Addr).add 4) = some (.int .u32 t122_62) ∧
  ∃ (t125_63 : Int), w_55.cell? ((⟨w_42.heap.size, 0, none⟩ : Addr).add 6) = some (.int .u32 t125_63) ∧
  (0 : Int) ≤ i12_53 ∧ i12_53 < (t96_41.n : Int) ∧ ∃ (a_64 : Addr), t96_41.a = some a_64 ∧
  ∃ (t132_65 : Int), w_55.cell? (a_64.add (Int.toNat i12_53)) = some (.int .u32 t132_65) ∧
  (0 : Int) ≤ i12_53 ∧ i12_53 < 64 ∧
  ∃ (t136_66 : Int), w_55.cell? ((⟨w_11.heap.size, 0, none⟩ : Addr).add (Int.toNat i12_53)) = some (.int .u32 t136_66) ∧
  Calls Try.prog 95 #[.int .u32 t105_57, .int .i64 6] w_55 fun e w_68 => ∃ (t106_67 : Int), e = .returned (.int .u32 t106_67 : Value) ∧ w_68.cell? ((⟨w_11.heap.size, 0, none⟩ : Addr).add (Int.toNat i12_53)) = some (.int .u32 t136_66) ∧ w_68.cell? (a_64.add (Int.toNat i12_53)) = some (.int .u32 t132_65) ∧ w_68.cell? ((⟨w_42.heap.size, 0, none⟩ : Addr).add 6) = some (.int .u32 t125_63) ∧ w_68.cell? ((⟨w_42.heap.size, 0, none⟩ : Addr).add 4) = some (.int .u32 t122_62) ∧ w_68.cell? ((⟨w_42.heap.size, 0, none⟩ : Addr).add 5) = some (.int .u32 t119_61) ∧ w_68.cell? ((⟨w_42.heap.size, 0, none⟩ : Addr).add 4) = some (.int .u32 t117_60) ∧ w_68.cell? ((⟨w_42.heap.size, 0, none⟩ : Addr).add 4) = some (.int .u32 t112_59) ∧ w_68.cell? ((⟨w_42.heap.size, 0, none⟩ : Addr).add 4) = some (.int .u32 t108_58) ∧ w_68.cell? ((⟨w_42.heap.size, 0, none⟩ : Addr).add 7) = some (.int .u32 t103_56) ∧ 
  Calls Try.prog 95 #[.int .u32 t108_58, .int .i64 11] w_68 fun e w_70 => ∃ (t109_69 : Int), e = .returned (.int .u32 t109_69 : Value) ∧ w_70.cell? ((⟨w_11.heap.size, 0, none⟩ : Addr).add (Int.toNat i12_53)) = some (.int .u32 t136_66) ∧ w_70.cell? (a_64.add (Int.toNat i12_53)) = some (.int .u32 t132_65) ∧ w_70.cell? ((⟨w_42.heap.size, 0, none⟩ : Addr).add 6) = some (.int .u32 t125_63) ∧ w_70.cell? ((⟨w_42.heap.size, 0, none⟩ : Addr).add 4) = some (.int .u32 t122_62) ∧ w_70.cell? ((⟨w_42.heap.size, 0, none⟩ : Addr).add 5) = some (.int .u32 t119_61) ∧ w_70.cell? ((⟨w_42.heap.size, 0, none⟩ : Addr).add 4) = some (.int .u32 t117_60) ∧ w_70.cell? ((⟨w_42.heap.size, 0, none⟩ : Addr).add 4) = some (.int .u32 t112_59) ∧ w_70.cell? ((⟨w_42.heap.size, 0, none⟩ : Addr).add 7) = some (.int .u32 t103_56) ∧ 
  Calls Try.prog 95 #[.int .u32 t112_59, .int .i64 25] w_70 fun e w_72 => ∃ (t113_71 : Int), e = .returned (.int .u32 t113_71 : Value) ∧ w_72.cell? ((⟨w_11.heap.size, 0, none⟩ : Addr).add (Int.toNat i12_53)) = some (.int .u32 t136_66) ∧ w_72.cell? (a_64.add (Int.toNat i12_53)) = some (.int .u32 t132_65) ∧ w_72.cell? ((⟨w_42.heap.size, 0, none⟩ : Addr).add 6) = some (.int .u32 t125_63) ∧ w_72.cell? ((⟨w_42.heap.size, 0, none⟩ : Addr).add 4) = some (.int .u32 t122_62) ∧ w_72.cell? ((⟨w_42.heap.size, 0, none⟩ : Addr).add 5) = some (.int .u32 t119_61) ∧ w_72.cell? ((⟨w_42.heap.size, 0, none⟩ : Addr).add 4) = some (.int .u32 t117_60) ∧ w_72.cell? ((⟨w_42.heap.size, 0, none⟩ : Addr).add 7) = some (.int .u32 t103_56) ∧ 
  ∀ (w_73 : World), w_73 = w_72.drew →
  ∃ (t139_74 : Int), w_73.cell? (⟨w_42.heap.size, 0, none⟩ : Addr) = some (.int .u32 t139_74) ∧
  ∃ (t142_75 : Int), w_73.cell? (⟨w_42.heap.size, 0, none⟩ : Addr) = some (.int .u32 t142_75) ∧
  ∃ (t146_76 : Int), w_73.cell? (⟨w_42.heap.size, 0, none⟩ : Addr) = some (.int .u32 t146_76) ∧
  ∃ (t150_77 : Int), w_73.cell? (⟨w_42.heap.size, 0, none⟩ : Addr) = some (.int .u32 t150_77) ∧
  ∃ (t152_78 : Int), w_73.cell? ((⟨w_42.heap.size, 0, none⟩ : Addr).add 1) = some (.int .u32 t152_78) ∧
  ∃ (t155_79 : Int), w_73.cell? (⟨w_42.heap.size, 0, none⟩ : Addr) = some (.int .u32 t155_79) ∧
  ∃ (t157_80 : Int), w_73.cell? ((⟨w_42.heap.size, 0, none⟩ : Addr).add 2) = some (.int .u32 t157_80) ∧
  ∃ (t161_81 : Int), w_73.cell? ((⟨w_42.heap.size, 0, none⟩ : Addr).add 1) = some (.int .u32 t161_81) ∧
  ∃ (t163_82 : Int), w_73.cell? ((⟨w_42.heap.size, 0, none⟩ : Addr).add 2) = some (.int .u32 t163_82) ∧
  Calls Try.prog 95 #[.int .u32 t139_74, .int .i64 2] w_73 fun e w_84 => ∃ (t140_83 : Int), e = .returned (.int .u32 t140_83 : Value) ∧ w_84.cell? ((⟨w_42.heap.size, 0, none⟩ : Addr).add 2) = some (.int .u32 t163_82) ∧ w_84.cell? ((⟨w_42.heap.size, 0, none⟩ : Addr).add 1) = some (.int .u32 t161_81) ∧ w_84.cell? ((⟨w_42.heap.size, 0, none⟩ : Addr).add 2) = some (.int .u32 t157_80) ∧ w_84.cell? (⟨w_42.heap.size, 0, none⟩ : Addr) = some (.int .u32 t155_79) ∧ w_84.cell? ((⟨w_42.heap.size, 0, none⟩ : Addr).add 1) = some (.int .u32 t152_78) ∧ w_84.cell? (⟨w_42.heap.size, 0, none⟩ : Addr) = some (.int .u32 t150_77) ∧ w_84.cell? (⟨w_42.heap.size, 0, none⟩ : Addr) = some (.int .u32 t146_76) ∧ w_84.cell? (⟨w_42.heap.size, 0, none⟩ : Addr) = some (.int .u32 t142_75) ∧ 
  Calls Try.prog 95 #[.int .u32 t142_75, .int .i64 13] w_84 fun e w_86 => ∃ (t143_85 : Int), e = .returned (.int .u32 t143_85 : Value) ∧ w_86.cell? ((⟨w_42.heap.size, 0, none⟩ : Addr).add 2) = some (.int .u32 t163_82) ∧ w_86.cell? ((⟨w_42.heap.size, 0, none⟩ : Addr).add 1) = some (.int .u32 t161_81) ∧ w_86.cell? ((⟨w_42.heap.size, 0, none⟩ : Addr).add 2) = some (.int .u32 t157_80) ∧ w_86.cell? (⟨w_42.heap.size, 0, none⟩ : Addr) = some (.int .u32 t155_79) ∧ w_86.cell? ((⟨w_42.heap.size, 0, none⟩ : Addr).add 1) = some (.int .u32 t152_78) ∧ w_86.cell? (⟨w_42.heap.size, 0, none⟩ : Addr) = some (.int .u32 t150_77) ∧ w_86.cell? (⟨w_42.heap.size, 0, none⟩ : Addr) = some (.int .u32 t146_76) ∧ 
  Calls Try.prog 95 #[.int .u32 t146_76, .int .i64 22] w_86 fun e w_88 => ∃ (t147_87 : Int), e = .returned (.int .u32 t147_87 : Value) ∧ w_88.cell? ((⟨w_42.heap.size, 0, none⟩ : Addr).add 2) = some (.int .u32 t163_82) ∧ w_88.cell? ((⟨w_42.heap.size, 0, none⟩ : Addr).add 1) = some (.int .u32 t161_81) ∧ w_88.cell? ((⟨w_42.heap.size, 0, none⟩ : Addr).add 2) = some (.int .u32 t157_80) ∧ w_88.cell? (⟨w_42.heap.size, 0, none⟩ : Addr) = some (.int .u32 t155_79) ∧ w_88.cell? ((⟨w_42.heap.size, 0, none⟩ : Addr).add 1) = some (.int .u32 t152_78) ∧ w_88.cell? (⟨w_42.heap.size, 0, none⟩ : Addr) = some (.int .u32 t150_77) ∧ 
  ∃ (t171_89 : Int), w_88.cell? (⟨w_42.heap.size, 0, none⟩ : Addr) = some (.int .u32 t171_89) ∧
  ∃ (t173_90 : Int), w_88.cell? ((⟨w_42.heap.size, 0, none⟩ : Addr).add 1) = some (.int .u32 t173_90) ∧
  ∃ (t175_91 : Int), w_88.cell? ((⟨w_42.heap.size, 0, none⟩ : Addr).add 2) = some (.int .u32 t175_91) ∧
  ∃ (t177_92 : Int), w_88.cell? ((⟨w_42.heap.size, 0, none⟩ : Addr).add 3) = some (.int .u32 t177_92) ∧
  ∃ (t181_93 : Int), w_88.cell? ((⟨w_42.heap.size, 0, none⟩ : Addr).add 4) = some (.int .u32 t181_93) ∧
  ∃ (t183_94 : Int), w_88.cell? ((⟨w_42.heap.size, 0, none⟩ : Addr).add 5) = some (.int .u32 t183_94) ∧
  ∃ (t185_95 : Int), w_88.cell? ((⟨w_42.heap.size, 0, none⟩ : Addr).add 6) = some (.int .u32 t185_95) ∧
  HasCells w_88 (⟨w_42.heap.size, 0, none⟩ : Addr) 0 8 ∧ ∀ (w_96 : World), w_96 = setCells w_88 (⟨w_42.heap.size, 0, none⟩ : Addr) 0 [.int .u32 (IntKind.u32.wrap ((IntKind.u32.wrap ((IntKind.u32.wrap ((IntKind.u32.wrap ((IntKind.u32.wrap (t103_56 + (ibits .xor .u32 (ibits .xor .u32 t106_67 t109_69) t113_71))) + (ibits .xor .u32 (ibits .and .u32 t117_60 t119_61) (ibits .and .u32 (ibits .xor .u32 4294967295 t122_62) t125_63)))) + t132_65)) + t136_66)) + (IntKind.u32.wrap ((ibits .xor .u32 (ibits .xor .u32 t140_83 t143_85) t147_87) + (ibits .xor .u32 (ibits .xor .u32 (ibits .and .u32 t150_77 t152_78) (ibits .and .u32 t155_79 t157_80)) (ibits .and .u32 t161_81 t163_82)))))), .int .u32 t171_89, .int .u32 t173_90, .int .u32 t175_91, .int .u32 (IntKind.u32.wrap (t177_92 + (IntKind.u32.wrap ((IntKind.u32.wrap ((IntKind.u32.wrap ((IntKind.u32.wrap (t103_56 + (ibits .xor .u32 (ibits .xor .u32 t106_67 t109_69) t113_71))) + (ibits .xor .u32 (ibits .and .u32 t117_60 t119_61) (ibits .and .u32 (ibits .xor .u32 4294967295 t122_62) t125_63)))) + t132_65)) + t136_66)))), .int .u32 t181_93, .int .u32 t183_94, .int .u32 t185_95] →
  next60 (IntKind.i64.wrap (i12_53 + 1)) w_96) ∧
  (¬ (i12_53 < 64) →
  kLoop (F77_l4 K w w_10 w_42) (0) w_54))
def F77_l2 (K : Int → Int → Int → Int → Int → Int → Int → Int → World → Prop) (w : World) (w_10 : World) (w_11 : World) (next26 : (Int) → World → Prop) : (Int) → World → Prop := fun (i7_25) w_26 =>
  ((i7_25 < 64 →
  (0 : Int) ≤ (IntKind.i64.wrap (i7_25 - 2)) ∧ (IntKind.i64.wrap (i7_25 - 2)) < 64 ∧
  ∃ (t62_27 : Int), w_26.cell? ((⟨w_11.heap.size, 0, none⟩ : Addr).add (Int.toNat (IntKind.i64.wrap (i7_25 - 2)))) = some (.int .u32 t62_27) ∧
  (0 : Int) ≤ (IntKind.i64.wrap (i7_25 - 15)) ∧ (IntKind.i64.wrap (i7_25 - 15)) < 64 ∧
  ∃ (t66_28 : Int), w_26.cell? ((⟨w_11.heap.size, 0, none⟩ : Addr).add (Int.toNat (IntKind.i64.wrap (i7_25 - 15)))) = some (.int .u32 t66_28) ∧
  ∀ (w_29 : World), w_29 = w_26.drew →
  (0 : Int) ≤ (IntKind.i64.wrap (i7_25 - 7)) ∧ (IntKind.i64.wrap (i7_25 - 7)) < 64 ∧
  ∃ (t79_30 : Int), w_29.cell? ((⟨w_11.heap.size, 0, none⟩ : Addr).add (Int.toNat (IntKind.i64.wrap (i7_25 - 7)))) = some (.int .u32 t79_30) ∧
  (0 : Int) ≤ (IntKind.i64.wrap (i7_25 - 16)) ∧ (IntKind.i64.wrap (i7_25 - 16)) < 64 ∧
  ∃ (t93_31 : Int), w_29.cell? ((⟨w_11.heap.size, 0, none⟩ : Addr).add (Int.toNat (IntKind.i64.wrap (i7_25 - 16)))) = some (.int .u32 t93_31) ∧
  Calls Try.prog 95 #[.int .u32 t62_27, .int .i64 17] w_29 fun e w_33 => ∃ (t69_32 : Int), e = .returned (.int .u32 t69_32 : Value) ∧ w_33.cell? ((⟨w_11.heap.size, 0, none⟩ : Addr).add (Int.toNat (IntKind.i64.wrap (i7_25 - 16)))) = some (.int .u32 t93_31) ∧ w_33.cell? ((⟨w_11.heap.size, 0, none⟩ : Addr).add (Int.toNat (IntKind.i64.wrap (i7_25 - 7)))) = some (.int .u32 t79_30) ∧ 
  Calls Try.prog 95 #[.int .u32 t62_27, .int .i64 19] w_33 fun e w_35 => ∃ (t71_34 : Int), e = .returned (.int .u32 t71_34 : Value) ∧ w_35.cell? ((⟨w_11.heap.size, 0, none⟩ : Addr).add (Int.toNat (IntKind.i64.wrap (i7_25 - 16)))) = some (.int .u32 t93_31) ∧ w_35.cell? ((⟨w_11.heap.size, 0, none⟩ : Addr).add (Int.toNat (IntKind.i64.wrap (i7_25 - 7)))) = some (.int .u32 t79_30) ∧ 
  Calls Try.prog 95 #[.int .u32 t66_28, .int .i64 7] w_35 fun e w_37 => ∃ (t82_36 : Int), e = .returned (.int .u32 t82_36 : Value) ∧ w_37.cell? ((⟨w_11.heap.size, 0, none⟩ : Addr).add (Int.toNat (IntKind.i64.wrap (i7_25 - 16)))) = some (.int .u32 t93_31) ∧ w_37.cell? ((⟨w_11.heap.size, 0, none⟩ : Addr).add (Int.toNat (IntKind.i64.wrap (i7_25 - 7)))) = some (.int .u32 t79_30) ∧ 
  Calls Try.prog 95 #[.int .u32 t66_28, .int .i64 18] w_37 fun e w_39 => ∃ (t84_38 : Int), e = .returned (.int .u32 t84_38 : Value) ∧ w_39.cell? ((⟨w_11.heap.size, 0, none⟩ : Addr).add (Int.toNat (IntKind.i64.wrap (i7_25 - 16)))) = some (.int .u32 t93_31) ∧ w_39.cell? ((⟨w_11.heap.size, 0, none⟩ : Addr).add (Int.toNat (IntKind.i64.wrap (i7_25 - 7)))) = some (.int .u32 t79_30) ∧ 
  (0 : Int) ≤ i7_25 ∧ i7_25 < 64 ∧
  HasCell w_39 ((⟨w_11.heap.size, 0, none⟩ : Addr).add (Int.toNat i7_25)) ∧ ∀ (w_40 : World), w_40 = w_39.setCell ((⟨w_11.heap.size, 0, none⟩ : Addr).add (Int.toNat i7_25)) (.int .u32 (IntKind.u32.wrap ((IntKind.u32.wrap ((IntKind.u32.wrap ((ibits .xor .u32 (ibits .xor .u32 t69_32 t71_34) (Int.fdiv t62_27 (2 ^ 10))) + t79_30)) + (ibits .xor .u32 (ibits .xor .u32 t82_36 t84_38) (Int.fdiv t66_28 (2 ^ 3))))) + t93_31)) : Value) → 
  next26 (IntKind.i64.wrap (i7_25 + 1)) w_40) ∧
  (¬ (i7_25 < 64) →
  Calls Try.prog 96 #[] w_26 fun e w_42 => ∃ (t96_41 : Sl), e = .returned (.slice t96_41.a t96_41.n t96_41.c : Value) ∧
  ∃ (t97_43 : Int), ∃ (t97_44 : Int), ∃ (t97_45 : Int), ∃ (t97_46 : Int), ∃ (t97_47 : Int), ∃ (t97_48 : Int), ∃ (t97_49 : Int), ∃ (t97_50 : Int), CellsAt w_42 (⟨w.heap.size, 0, none⟩ : Addr) 0 [.int .u32 t97_43, .int .u32 t97_44, .int .u32 t97_45, .int .u32 t97_46, .int .u32 t97_47, .int .u32 t97_48, .int .u32 t97_49, .int .u32 t97_50] ∧
  ∀ (w_51 : World), w_51 = w_42.alloc (.cells #[.int .u32 0, .int .u32 0, .int .u32 0, .int .u32 0, .int .u32 0, .int .u32 0, .int .u32 0, .int .u32 0] 94) →
  HasCells w_51 (⟨w_42.heap.size, 0, none⟩ : Addr) 0 8 ∧ ∀ (w_52 : World), w_52 = setCells w_51 (⟨w_42.heap.size, 0, none⟩ : Addr) 0 [.int .u32 t97_43, .int .u32 t97_44, .int .u32 t97_45, .int .u32 t97_46, .int .u32 t97_47, .int .u32 t97_48, .int .u32 t97_49, .int .u32 t97_50] →
  kLoop (F77_l3 K w w_10 w_11 t96_41 w_42) (0) w_52))
def F77_l1 (b1_9 : Sl) (K : Int → Int → Int → Int → Int → Int → Int → Int → World → Prop) (w : World) (w_10 : World) (w_11 : World) (next6 : (Int) → World → Prop) : (Int) → World → Prop := fun (i6_13) w_14 =>
  ((i6_13 < 16 →
  ∀ (w_15 : World), w_15 = w_14.drew →
  (0 : Int) ≤ (IntKind.i64.wrap (4 * i6_13)) ∧ (IntKind.i64.wrap (4 * i6_13)) < (b1_9.n : Int) ∧ ∃ (a_16 : Addr), b1_9.a = some a_16 ∧
  ∃ (t25_17 : Int), w_15.cell? (a_16.add (Int.toNat (IntKind.i64.wrap (4 * i6_13)))) = some (.int .u8 t25_17) ∧
  (0 : Int) ≤ (IntKind.i64.wrap ((IntKind.i64.wrap (4 * i6_13)) + 1)) ∧ (IntKind.i64.wrap ((IntKind.i64.wrap (4 * i6_13)) + 1)) < (b1_9.n : Int) ∧ ∃ (a_18 : Addr), b1_9.a = some a_18 ∧
  ∃ (t33_19 : Int), w_15.cell? (a_18.add (Int.toNat (IntKind.i64.wrap ((IntKind.i64.wrap (4 * i6_13)) + 1)))) = some (.int .u8 t33_19) ∧
  (0 : Int) ≤ (IntKind.i64.wrap ((IntKind.i64.wrap (4 * i6_13)) + 2)) ∧ (IntKind.i64.wrap ((IntKind.i64.wrap (4 * i6_13)) + 2)) < (b1_9.n : Int) ∧ ∃ (a_20 : Addr), b1_9.a = some a_20 ∧
  ∃ (t42_21 : Int), w_15.cell? (a_20.add (Int.toNat (IntKind.i64.wrap ((IntKind.i64.wrap (4 * i6_13)) + 2)))) = some (.int .u8 t42_21) ∧
  (0 : Int) ≤ (IntKind.i64.wrap ((IntKind.i64.wrap (4 * i6_13)) + 3)) ∧ (IntKind.i64.wrap ((IntKind.i64.wrap (4 * i6_13)) + 3)) < (b1_9.n : Int) ∧ ∃ (a_22 : Addr), b1_9.a = some a_22 ∧
  ∃ (t51_23 : Int), w_15.cell? (a_22.add (Int.toNat (IntKind.i64.wrap ((IntKind.i64.wrap (4 * i6_13)) + 3)))) = some (.int .u8 t51_23) ∧
  (0 : Int) ≤ i6_13 ∧ i6_13 < 64 ∧
  HasCell w_15 ((⟨w_11.heap.size, 0, none⟩ : Addr).add (Int.toNat i6_13)) ∧ ∀ (w_24 : World), w_24 = w_15.setCell ((⟨w_11.heap.size, 0, none⟩ : Addr).add (Int.toNat i6_13)) (.int .u32 (ibits .or .u32 (ibits .or .u32 (ibits .or .u32 (IntKind.u32.wrap ((IntKind.u32.wrap t25_17) * 2 ^ 24)) (IntKind.u32.wrap ((IntKind.u32.wrap t33_19) * 2 ^ 16))) (IntKind.u32.wrap ((IntKind.u32.wrap t42_21) * 2 ^ 8))) (IntKind.u32.wrap t51_23)) : Value) → 
  next6 (IntKind.i64.wrap (i6_13 + 1)) w_24) ∧
  (¬ (i6_13 < 16) →
  kLoop (F77_l2 K w w_10 w_11) (16) w_14))
/-- turnkey/turnkeyref02.block -/
def F77 (h0_1 : Int) (h0_2 : Int) (h0_3 : Int) (h0_4 : Int) (h0_5 : Int) (h0_6 : Int) (h0_7 : Int) (h0_8 : Int) (b1_9 : Sl) (K : Int → Int → Int → Int → Int → Int → Int → Int → World → Prop) (w : World) : Prop :=
  ∀ (w_10 : World), w_10 = w.alloc (.cells #[.int .u32 h0_1, .int .u32 h0_2, .int .u32 h0_3, .int .u32 h0_4, .int .u32 h0_5, .int .u32 h0_6, .int .u32 h0_7, .int .u32 h0_8] 94) →
  ∀ (w_11 : World), w_11 = w_10.alloc (.cells #[.int .u32 0, .int .u32 0, .int .u32 0, .int .u32 0, .int .u32 0, .int .u32 0, .int .u32 0, .int .u32 0] 94) →
  ∀ (w_12 : World), w_12 = w_11.alloc (.cells #[.int .u32 0, .int .u32 0, .int .u32 0, .int .u32 0, .int .u32 0, .int .u32 0, .int .u32 0, .int .u32 0, .int .u32 0, .int .u32 0, .int .u32 0, .int .u32 0, .int .u32 0, .int .u32 0, .int .u32 0, .int .u32 0, .int .u32 0, .int .u32 0, .int .u32 0, .int .u32 0, .int .u32 0, .int .u32 0, .int .u32 0, .int .u32 0, .int .u32 0, .int .u32 0, .int .u32 0, .int .u32 0, .int .u32 0, .int .u32 0, .int .u32 0, .int .u32 0, .int .u32 0, .int .u32 0, .int .u32 0, .int .u32 0, .int .u32 0, .int .u32 0, .int .u32 0, .int .u32 0, .int .u32 0, .int .u32 0, .int .u32 0, .int .u32 0, .int .u32 0, .int .u32 0, .int .u32 0, .int .u32 0, .int .u32 0, .int .u32 0, .int .u32 0, .int .u32 0, .int .u32 0, .int .u32 0, .int .u32 0, .int .u32 0, .int .u32 0, .int .u32 0, .int .u32 0, .int .u32 0, .int .u32 0, .int .u32 0, .int .u32 0, .int .u32 0] 96) →
  kLoop (F77_l1 b1_9 K w w_10 w_11) (0) w_12
set_option maxHeartbeats 4000000 in
set_option maxRecDepth 20000 in
theorem F77_sound (h0_1 : Int) (h0_2 : Int) (h0_3 : Int) (h0_4 : Int) (h0_5 : Int) (h0_6 : Int) (h0_7 : Int) (h0_8 : Int) (b1_9 : Sl) (K : Int → Int → Int → Int → Int → Int → Int → Int → World → Prop) (w : World) (h : F77 h0_1 h0_2 h0_3 h0_4 h0_5 h0_6 h0_7 h0_8 b1_9 K w) :
    Calls Try.prog 77 #[.agg #[.int .u32 h0_1, .int .u32 h0_2, .int .u32 h0_3, .int .u32 h0_4, .int .u32 h0_5, .int .u32 h0_6, .int .u32 h0_7, .int .u32 h0_8], .slice b1_9.a b1_9.n b1_9.c] w (fun e w1 => ∃ (r0 : Int), ∃ (r1 : Int), ∃ (r2 : Int), ∃ (r3 : Int), ∃ (r4 : Int), ∃ (r5 : Int), ∃ (r6 : Int), ∃ (r7 : Int), e = .returned (.agg #[.int .u32 r0, .int .u32 r1, .int .u32 r2, .int .u32 r3, .int .u32 r4, .int .u32 r5, .int .u32 r6, .int .u32 r7] : Value) ∧ K r0 r1 r2 r3 r4 r5 r6 r7 w1) := by
  unfold F77 at h
  refine y_enter (n := 201) (args := [.agg #[.int .u32 h0_1, .int .u32 h0_2, .int .u32 h0_3, .int .u32 h0_4, .int .u32 h0_5, .int .u32 h0_6, .int .u32 h0_7, .int .u32 h0_8], .slice b1_9.a b1_9.n b1_9.c]) Try.func77 rfl rfl rfl fun Q0 hQ0 => ?_
  refine y_seq fun K1 hK1 => ?_
  refine y_region ?_
  refine y_k (.pointer (some (⟨w.heap.size, 0, none⟩ : Addr)) : Value) (w.alloc (.cells #[.int .u32 h0_1, .int .u32 h0_2, .int .u32 h0_3, .int .u32 h0_4, .int .u32 h0_5, .int .u32 h0_6, .int .u32 h0_7, .int .u32 h0_8] 94)) rfl rfl rfl (by kernel_rfl) ?_
  replace h := h _ rfl
  generalize w.alloc (.cells #[.int .u32 h0_1, .int .u32 h0_2, .int .u32 h0_3, .int .u32 h0_4, .int .u32 h0_5, .int .u32 h0_6, .int .u32 h0_7, .int .u32 h0_8] 94) = w_10 at h ⊢
  refine y_k (.pointer (some (⟨w_10.heap.size, 0, none⟩ : Addr)) : Value) (w_10.alloc (.cells #[.int .u32 0, .int .u32 0, .int .u32 0, .int .u32 0, .int .u32 0, .int .u32 0, .int .u32 0, .int .u32 0] 94)) rfl rfl rfl (by kernel_rfl) ?_
  replace h := h _ rfl
  generalize w_10.alloc (.cells #[.int .u32 0, .int .u32 0, .int .u32 0, .int .u32 0, .int .u32 0, .int .u32 0, .int .u32 0, .int .u32 0] 94) = w_11 at h ⊢
  refine y_nil ?_
  refine y_then (hK1 _ _ ?_)
  refine y_seq fun K2 hK2 => ?_
  refine y_region ?_
  refine y_k (.pointer (some (⟨w_11.heap.size, 0, none⟩ : Addr)) : Value) (w_11.alloc (.cells #[.int .u32 0, .int .u32 0, .int .u32 0, .int .u32 0, .int .u32 0, .int .u32 0, .int .u32 0, .int .u32 0, .int .u32 0, .int .u32 0, .int .u32 0, .int .u32 0, .int .u32 0, .int .u32 0, .int .u32 0, .int .u32 0, .int .u32 0, .int .u32 0, .int .u32 0, .int .u32 0, .int .u32 0, .int .u32 0, .int .u32 0, .int .u32 0, .int .u32 0, .int .u32 0, .int .u32 0, .int .u32 0, .int .u32 0, .int .u32 0, .int .u32 0, .int .u32 0, .int .u32 0, .int .u32 0, .int .u32 0, .int .u32 0, .int .u32 0, .int .u32 0, .int .u32 0, .int .u32 0, .int .u32 0, .int .u32 0, .int .u32 0, .int .u32 0, .int .u32 0, .int .u32 0, .int .u32 0, .int .u32 0, .int .u32 0, .int .u32 0, .int .u32 0, .int .u32 0, .int .u32 0, .int .u32 0, .int .u32 0, .int .u32 0, .int .u32 0, .int .u32 0, .int .u32 0, .int .u32 0, .int .u32 0, .int .u32 0, .int .u32 0, .int .u32 0] 96)) rfl rfl rfl (by kernel_rfl) ?_
  replace h := h _ rfl
  generalize w_11.alloc (.cells #[.int .u32 0, .int .u32 0, .int .u32 0, .int .u32 0, .int .u32 0, .int .u32 0, .int .u32 0, .int .u32 0, .int .u32 0, .int .u32 0, .int .u32 0, .int .u32 0, .int .u32 0, .int .u32 0, .int .u32 0, .int .u32 0, .int .u32 0, .int .u32 0, .int .u32 0, .int .u32 0, .int .u32 0, .int .u32 0, .int .u32 0, .int .u32 0, .int .u32 0, .int .u32 0, .int .u32 0, .int .u32 0, .int .u32 0, .int .u32 0, .int .u32 0, .int .u32 0, .int .u32 0, .int .u32 0, .int .u32 0, .int .u32 0, .int .u32 0, .int .u32 0, .int .u32 0, .int .u32 0, .int .u32 0, .int .u32 0, .int .u32 0, .int .u32 0, .int .u32 0, .int .u32 0, .int .u32 0, .int .u32 0, .int .u32 0, .int .u32 0, .int .u32 0, .int .u32 0, .int .u32 0, .int .u32 0, .int .u32 0, .int .u32 0, .int .u32 0, .int .u32 0, .int .u32 0, .int .u32 0, .int .u32 0, .int .u32 0, .int .u32 0, .int .u32 0] 96) = w_12 at h ⊢
  refine y_nil ?_
  refine y_then (hK2 _ _ ?_)
  refine y_seq fun K3 hK3 => ?_
  refine y_seq fun K4 hK4 => ?_
  refine y_region ?_
  refine y_k (.int .i64 0 : Value) w_12 rfl rfl rfl (by kernel_rfl) ?_
  refine y_nil ?_
  refine y_then (hK4 _ _ ?_)
  refine y_block ?_
  refine y_loop (S := Int) (fun s j => match s with | (i6_13) => upd (upd (upd (upd (upd (j) 1 (.slice b1_9.a b1_9.n b1_9.c : Value)) 2 (.pointer (some (⟨w.heap.size, 0, none⟩ : Addr)) : Value)) 4 (.pointer (some (⟨w_10.heap.size, 0, none⟩ : Addr)) : Value)) 5 (.pointer (some (⟨w_11.heap.size, 0, none⟩ : Addr)) : Value)) 6 (.int .i64 i6_13 : Value)) (0) ?_ h ?_
  · dsimp only
    refine upd_id ?_ rfl
    refine upd_id ?_ rfl
    refine upd_id ?_ rfl
    refine upd_id ?_ rfl
    refine upd_id ?_ rfl
    rfl
  rintro KN7 next6 hN7 i6_13 j w_14 h
  unfold F77_l1 at h
  refine y_seq fun K8 hK8 => ?_
  refine y_seq fun K9 hK9 => ?_
  refine y_region ?_
  refine y_k (.int .i64 i6_13 : Value) w_14 rfl rfl rfl (by kernel_rfl) ?_
  refine y_k (.bool (decide (i6_13 < 16)) : Value) w_14 rfl rfl rfl (by kernel_rfl) ?_
  refine y_nil ?_
  refine y_then (hK9 _ _ ?_)
  refine y_cond (decide (i6_13 < 16)) rfl rfl (fun hb191 => ?_) (fun hb191 => ?_)
  · replace h := h.1 (of_decide_eq_true hb191)
    refine y_skip ?_
    refine y_then (hK8 _ _ ?_)
    refine y_seq fun K10 hK10 => ?_
    refine y_block ?_
    obtain ⟨w_15, hwd12⟩ : ∃ wd : World, wd = w_14.drew := ⟨_, rfl⟩
    replace h := h _ hwd12
    refine t_region (wd := w_15) [] (by kernel_rfl) hwd12 SF_nil fun Q12 hE12 hp12 hS => ?_
    clear hwd12
    refine t_kw hp12 hS 0 (.int .i64 i6_13 : Value) rfl (wanted_none rfl) rfl rfl (by kernel_rfl) (fun _ _ => by kernel_rfl) fun hS => ?_
    refine t_kw hp12 hS 1 (.slice b1_9.a b1_9.n b1_9.c : Value) rfl (wanted_none rfl) rfl rfl (by kernel_rfl) (fun _ _ => by kernel_rfl) fun hS => ?_
    refine t_kw hp12 hS 2 (.int .i64 i6_13 : Value) rfl (wanted_none rfl) rfl rfl (by kernel_rfl) (fun _ _ => by kernel_rfl) fun hS => ?_
    refine t_kw hp12 hS 3 (.int .i64 (IntKind.i64.wrap (4 * i6_13)) : Value) rfl (wanted_none rfl) rfl rfl (by kernel_rfl) (fun _ _ => by kernel_rfl) fun hS => ?_
    obtain ⟨hx13a, hx13b, a_16, hx13, h⟩ := h
    refine t_v (s := Instr.indexAt 33 (.slice b1_9.a b1_9.n b1_9.c : Value) (.int .i64 (IntKind.i64.wrap (4 * i6_13)) : Value)) hp12 hS 4 (.pointer (some (a_16.add (Int.toNat (IntKind.i64.wrap (4 * i6_13))))) : Value) rfl (wanted_none rfl) rfl rfl (by kernel_rfl) (by kernel_rfl) (fun _ _ => run_ixs1 (el := 5) (by kernel_rfl) (by kernel_rfl) hx13 hx13a hx13b) fun hS => ?_
    obtain ⟨t25_17, hx14, h⟩ := h
    refine t_add ⟨5, [35], fun wx => wx.cell? (a_16.add (Int.toNat (IntKind.i64.wrap (4 * i6_13)))) = some (.int .u8 t25_17)⟩ ?_
    replace hS := SF_on (x := ⟨5, [35], fun wx => wx.cell? (a_16.add (Int.toNat (IntKind.i64.wrap (4 * i6_13)))) = some (.int .u8 t25_17)⟩) hx14 hS
    refine t_v (s := Instr.loadAt 5 (.pointer (some (a_16.add (Int.toNat (IntKind.i64.wrap (4 * i6_13))))))) hp12 hS 5 (.int .u8 t25_17 : Value) rfl (wanted_none rfl) rfl rfl (by kernel_rfl) (by kernel_rfl) (fun _ hw => rn_load (by kernel_rfl) (Sw.fact (List.Mem.head _) rfl hw)) fun hS => ?_
    refine t_kw hp12 hS 6 (.int .u32 (IntKind.u32.wrap t25_17) : Value) rfl (wanted_none rfl) rfl rfl (by kernel_rfl) (fun _ _ => by kernel_rfl) fun hS => ?_
    refine t_kw hp12 hS 7 (.int .u32 (IntKind.u32.wrap ((IntKind.u32.wrap t25_17) * 2 ^ 24)) : Value) rfl (wanted_none rfl) rfl rfl (by kernel_rfl) (fun _ _ => by kernel_rfl) fun hS => ?_
    refine t_kw hp12 hS 8 (.slice b1_9.a b1_9.n b1_9.c : Value) rfl (wanted_none rfl) rfl rfl (by kernel_rfl) (fun _ _ => by kernel_rfl) fun hS => ?_
    refine t_kw hp12 hS 9 (.int .i64 i6_13 : Value) rfl (wanted_none rfl) rfl rfl (by kernel_rfl) (fun _ _ => by kernel_rfl) fun hS => ?_
    refine t_kw hp12 hS 10 (.int .i64 (IntKind.i64.wrap (4 * i6_13)) : Value) rfl (wanted_none rfl) rfl rfl (by kernel_rfl) (fun _ _ => by kernel_rfl) fun hS => ?_
    refine t_kw hp12 hS 11 (.int .i64 (IntKind.i64.wrap ((IntKind.i64.wrap (4 * i6_13)) + 1)) : Value) rfl (wanted_none rfl) rfl rfl (by kernel_rfl) (fun _ _ => by kernel_rfl) fun hS => ?_
    obtain ⟨hx15a, hx15b, a_18, hx15, h⟩ := h
    refine t_v (s := Instr.indexAt 33 (.slice b1_9.a b1_9.n b1_9.c : Value) (.int .i64 (IntKind.i64.wrap ((IntKind.i64.wrap (4 * i6_13)) + 1)) : Value)) hp12 hS 12 (.pointer (some (a_18.add (Int.toNat (IntKind.i64.wrap ((IntKind.i64.wrap (4 * i6_13)) + 1))))) : Value) rfl (wanted_none rfl) rfl rfl (by kernel_rfl) (by kernel_rfl) (fun _ _ => run_ixs1 (el := 5) (by kernel_rfl) (by kernel_rfl) hx15 hx15a hx15b) fun hS => ?_
    obtain ⟨t33_19, hx16, h⟩ := h
    refine t_add ⟨13, [35], fun wx => wx.cell? (a_18.add (Int.toNat (IntKind.i64.wrap ((IntKind.i64.wrap (4 * i6_13)) + 1)))) = some (.int .u8 t33_19)⟩ ?_
    replace hS := SF_on (x := ⟨13, [35], fun wx => wx.cell? (a_18.add (Int.toNat (IntKind.i64.wrap ((IntKind.i64.wrap (4 * i6_13)) + 1)))) = some (.int .u8 t33_19)⟩) hx16 hS
    refine t_v (s := Instr.loadAt 5 (.pointer (some (a_18.add (Int.toNat (IntKind.i64.wrap ((IntKind.i64.wrap (4 * i6_13)) + 1))))))) hp12 hS 13 (.int .u8 t33_19 : Value) rfl (wanted_none rfl) rfl rfl (by kernel_rfl) (by kernel_rfl) (fun _ hw => rn_load (by kernel_rfl) (Sw.fact (List.Mem.head _) rfl hw)) fun hS => ?_
    refine t_kw hp12 hS 14 (.int .u32 (IntKind.u32.wrap t33_19) : Value) rfl (wanted_none rfl) rfl rfl (by kernel_rfl) (fun _ _ => by kernel_rfl) fun hS => ?_
    refine t_kw hp12 hS 15 (.int .u32 (IntKind.u32.wrap ((IntKind.u32.wrap t33_19) * 2 ^ 16)) : Value) rfl (wanted_none rfl) rfl rfl (by kernel_rfl) (fun _ _ => by kernel_rfl) fun hS => ?_
    refine t_kw hp12 hS 16 (.int .u32 (ibits .or .u32 (IntKind.u32.wrap ((IntKind.u32.wrap t25_17) * 2 ^ 24)) (IntKind.u32.wrap ((IntKind.u32.wrap t33_19) * 2 ^ 16))) : Value) rfl (wanted_none rfl) rfl rfl (by kernel_rfl) (fun _ _ => by kernel_rfl) fun hS => ?_
    refine t_kw hp12 hS 17 (.slice b1_9.a b1_9.n b1_9.c : Value) rfl (wanted_none rfl) rfl rfl (by kernel_rfl) (fun _ _ => by kernel_rfl) fun hS => ?_
    refine t_kw hp12 hS 18 (.int .i64 i6_13 : Value) rfl (wanted_none rfl) rfl rfl (by kernel_rfl) (fun _ _ => by kernel_rfl) fun hS => ?_
    refine t_kw hp12 hS 19 (.int .i64 (IntKind.i64.wrap (4 * i6_13)) : Value) rfl (wanted_none rfl) rfl rfl (by kernel_rfl) (fun _ _ => by kernel_rfl) fun hS => ?_
    refine t_kw hp12 hS 20 (.int .i64 (IntKind.i64.wrap ((IntKind.i64.wrap (4 * i6_13)) + 2)) : Value) rfl (wanted_none rfl) rfl rfl (by kernel_rfl) (fun _ _ => by kernel_rfl) fun hS => ?_
    obtain ⟨hx17a, hx17b, a_20, hx17, h⟩ := h
    refine t_v (s := Instr.indexAt 33 (.slice b1_9.a b1_9.n b1_9.c : Value) (.int .i64 (IntKind.i64.wrap ((IntKind.i64.wrap (4 * i6_13)) + 2)) : Value)) hp12 hS 21 (.pointer (some (a_20.add (Int.toNat (IntKind.i64.wrap ((IntKind.i64.wrap (4 * i6_13)) + 2))))) : Value) rfl (wanted_none rfl) rfl rfl (by kernel_rfl) (by kernel_rfl) (fun _ _ => run_ixs1 (el := 5) (by kernel_rfl) (by kernel_rfl) hx17 hx17a hx17b) fun hS => ?_
    obtain ⟨t42_21, hx18, h⟩ := h
    refine t_add ⟨22, [35], fun wx => wx.cell? (a_20.add (Int.toNat (IntKind.i64.wrap ((IntKind.i64.wrap (4 * i6_13)) + 2)))) = some (.int .u8 t42_21)⟩ ?_
    replace hS := SF_on (x := ⟨22, [35], fun wx => wx.cell? (a_20.add (Int.toNat (IntKind.i64.wrap ((IntKind.i64.wrap (4 * i6_13)) + 2)))) = some (.int .u8 t42_21)⟩) hx18 hS
    refine t_v (s := Instr.loadAt 5 (.pointer (some (a_20.add (Int.toNat (IntKind.i64.wrap ((IntKind.i64.wrap (4 * i6_13)) + 2))))))) hp12 hS 22 (.int .u8 t42_21 : Value) rfl (wanted_none rfl) rfl rfl (by kernel_rfl) (by kernel_rfl) (fun _ hw => rn_load (by kernel_rfl) (Sw.fact (List.Mem.head _) rfl hw)) fun hS => ?_
    refine t_kw hp12 hS 23 (.int .u32 (IntKind.u32.wrap t42_21) : Value) rfl (wanted_none rfl) rfl rfl (by kernel_rfl) (fun _ _ => by kernel_rfl) fun hS => ?_
    refine t_kw hp12 hS 24 (.int .u32 (IntKind.u32.wrap ((IntKind.u32.wrap t42_21) * 2 ^ 8)) : Value) rfl (wanted_none rfl) rfl rfl (by kernel_rfl) (fun _ _ => by kernel_rfl) fun hS => ?_
    refine t_kw hp12 hS 25 (.int .u32 (ibits .or .u32 (ibits .or .u32 (IntKind.u32.wrap ((IntKind.u32.wrap t25_17) * 2 ^ 24)) (IntKind.u32.wrap ((IntKind.u32.wrap t33_19) * 2 ^ 16))) (IntKind.u32.wrap ((IntKind.u32.wrap t42_21) * 2 ^ 8))) : Value) rfl (wanted_none rfl) rfl rfl (by kernel_rfl) (fun _ _ => by kernel_rfl) fun hS => ?_
    refine t_kw hp12 hS 26 (.slice b1_9.a b1_9.n b1_9.c : Value) rfl (wanted_none rfl) rfl rfl (by kernel_rfl) (fun _ _ => by kernel_rfl) fun hS => ?_
    refine t_kw hp12 hS 27 (.int .i64 i6_13 : Value) rfl (wanted_none rfl) rfl rfl (by kernel_rfl) (fun _ _ => by kernel_rfl) fun hS => ?_
    refine t_kw hp12 hS 28 (.int .i64 (IntKind.i64.wrap (4 * i6_13)) : Value) rfl (wanted_none rfl) rfl rfl (by kernel_rfl) (fun _ _ => by kernel_rfl) fun hS => ?_
    refine t_kw hp12 hS 29 (.int .i64 (IntKind.i64.wrap ((IntKind.i64.wrap (4 * i6_13)) + 3)) : Value) rfl (wanted_none rfl) rfl rfl (by kernel_rfl) (fun _ _ => by kernel_rfl) fun hS => ?_
    obtain ⟨hx19a, hx19b, a_22, hx19, h⟩ := h
    refine t_v (s := Instr.indexAt 33 (.slice b1_9.a b1_9.n b1_9.c : Value) (.int .i64 (IntKind.i64.wrap ((IntKind.i64.wrap (4 * i6_13)) + 3)) : Value)) hp12 hS 30 (.pointer (some (a_22.add (Int.toNat (IntKind.i64.wrap ((IntKind.i64.wrap (4 * i6_13)) + 3))))) : Value) rfl (wanted_none rfl) rfl rfl (by kernel_rfl) (by kernel_rfl) (fun _ _ => run_ixs1 (el := 5) (by kernel_rfl) (by kernel_rfl) hx19 hx19a hx19b) fun hS => ?_
    obtain ⟨t51_23, hx20, h⟩ := h
    refine t_add ⟨31, [35], fun wx => wx.cell? (a_22.add (Int.toNat (IntKind.i64.wrap ((IntKind.i64.wrap (4 * i6_13)) + 3)))) = some (.int .u8 t51_23)⟩ ?_
    replace hS := SF_on (x := ⟨31, [35], fun wx => wx.cell? (a_22.add (Int.toNat (IntKind.i64.wrap ((IntKind.i64.wrap (4 * i6_13)) + 3)))) = some (.int .u8 t51_23)⟩) hx20 hS
    refine t_v (s := Instr.loadAt 5 (.pointer (some (a_22.add (Int.toNat (IntKind.i64.wrap ((IntKind.i64.wrap (4 * i6_13)) + 3))))))) hp12 hS 31 (.int .u8 t51_23 : Value) rfl (wanted_none rfl) rfl rfl (by kernel_rfl) (by kernel_rfl) (fun _ hw => rn_load (by kernel_rfl) (Sw.fact (List.Mem.head _) rfl hw)) fun hS => ?_
    refine t_kw hp12 hS 32 (.int .u32 (IntKind.u32.wrap t51_23) : Value) rfl (wanted_none rfl) rfl rfl (by kernel_rfl) (fun _ _ => by kernel_rfl) fun hS => ?_
    refine t_kw hp12 hS 33 (.int .u32 (ibits .or .u32 (ibits .or .u32 (ibits .or .u32 (IntKind.u32.wrap ((IntKind.u32.wrap t25_17) * 2 ^ 24)) (IntKind.u32.wrap ((IntKind.u32.wrap t33_19) * 2 ^ 16))) (IntKind.u32.wrap ((IntKind.u32.wrap t42_21) * 2 ^ 8))) (IntKind.u32.wrap t51_23)) : Value) rfl (wanted_none rfl) rfl rfl (by kernel_rfl) (fun _ _ => by kernel_rfl) fun hS => ?_
    obtain ⟨hx21a, hx21b, h⟩ := h
    refine t_v (s := Instr.indexAt 96 (.pointer (some (⟨w_11.heap.size, 0, none⟩ : Addr)) : Value) (.int .i64 i6_13 : Value)) hp12 hS 34 (.pointer (some ((⟨w_11.heap.size, 0, none⟩ : Addr).add (Int.toNat i6_13))) : Value) rfl (wanted_none rfl) rfl rfl (by kernel_rfl) (by kernel_rfl) (fun _ _ => run_ixa1 (el := 23) (by kernel_rfl) (by kernel_rfl) hx21a hx21b) fun hS => ?_
    obtain ⟨hx22, h⟩ := h
    replace h := h _ rfl
    refine t_u 35 (s := Instr.storeAt 23 (.pointer (some ((⟨w_11.heap.size, 0, none⟩ : Addr).add (Int.toNat i6_13)))) (.int .u32 (ibits .or .u32 (ibits .or .u32 (ibits .or .u32 (IntKind.u32.wrap ((IntKind.u32.wrap t25_17) * 2 ^ 24)) (IntKind.u32.wrap ((IntKind.u32.wrap t33_19) * 2 ^ 16))) (IntKind.u32.wrap ((IntKind.u32.wrap t42_21) * 2 ^ 8))) (IntKind.u32.wrap t51_23)) : Value)) (by kernel_rfl) rfl (wanted_none rfl) rfl (by kernel_rfl) (rn_store1 (by kernel_rfl) rfl hx22) (SF_off (by kernel_rfl) (by kernel_rfl) (SF_off (by kernel_rfl) (by kernel_rfl) (SF_off (by kernel_rfl) (by kernel_rfl) (SF_off (by kernel_rfl) (by kernel_rfl) SF_nil)))) fun hS => ?_
    generalize w_15.setCell ((⟨w_11.heap.size, 0, none⟩ : Addr).add (Int.toNat i6_13)) (.int .u32 (ibits .or .u32 (ibits .or .u32 (ibits .or .u32 (IntKind.u32.wrap ((IntKind.u32.wrap t25_17) * 2 ^ 24)) (IntKind.u32.wrap ((IntKind.u32.wrap t33_19) * 2 ^ 16))) (IntKind.u32.wrap ((IntKind.u32.wrap t42_21) * 2 ^ 8))) (IntKind.u32.wrap t51_23)) : Value) = w_24 at hS h ⊢
    refine t_done (by kernel_rfl) (hE12 _ _ ?_)
    refine e_block_n ?_
    refine y_then (hK10 _ _ ?_)
    refine y_region ?_
    refine y_k (.int .i64 i6_13 : Value) w_24 rfl rfl rfl (by kernel_rfl) ?_
    refine y_k (.int .i64 (IntKind.i64.wrap (i6_13 + 1)) : Value) w_24 rfl rfl rfl (by kernel_rfl) ?_
    refine y_k (.int .i64 (IntKind.i64.wrap (i6_13 + 1)) : Value) w_24 rfl rfl rfl (by kernel_rfl) ?_
    refine y_nil ?_
    refine y_then (hN7 (IntKind.i64.wrap (i6_13 + 1)) _ _ h ?_)
    dsimp only
    refine upd_id ?_ rfl
    refine upd_id ?_ rfl
    refine upd_id ?_ rfl
    refine upd_id ?_ rfl
    refine upd_id ?_ rfl
    rfl
  · replace h := h.2 (of_decide_eq_false hb191)
    refine y_exit ?_
    repeat (first | refine e_then_x ?_ | refine e_block_y rfl ?_)
    refine e_block_x ?_
    refine y_then (hK3 _ _ ?_)
    refine y_seq fun K23 hK23 => ?_
    refine y_seq fun K24 hK24 => ?_
    refine y_region ?_
    refine y_k (.int .i64 16 : Value) w_14 rfl rfl rfl (by kernel_rfl) ?_
    refine y_nil ?_
    refine y_then (hK24 _ _ ?_)
    refine y_block ?_
    refine y_loop (S := Int) (fun s j => match s with | (i7_25) => upd (upd (upd (upd (j) 2 (.pointer (some (⟨w.heap.size, 0, none⟩ : Addr)) : Value)) 4 (.pointer (some (⟨w_10.heap.size, 0, none⟩ : Addr)) : Value)) 5 (.pointer (some (⟨w_11.heap.size, 0, none⟩ : Addr)) : Value)) 7 (.int .i64 i7_25 : Value)) (16) ?_ h ?_
    · dsimp only
      refine upd_id ?_ rfl
      refine upd_id ?_ rfl
      refine upd_id ?_ rfl
      refine upd_id ?_ rfl
      rfl
    rintro KN27 next26 hN27 i7_25 j w_26 h
    unfold F77_l2 at h
    refine y_seq fun K28 hK28 => ?_
    refine y_seq fun K29 hK29 => ?_
    refine y_region ?_
    refine y_k (.int .i64 i7_25 : Value) w_26 rfl rfl rfl (by kernel_rfl) ?_
    refine y_k (.bool (decide (i7_25 < 64)) : Value) w_26 rfl rfl rfl (by kernel_rfl) ?_
    refine y_nil ?_
    refine y_then (hK29 _ _ ?_)
    refine y_cond (decide (i7_25 < 64)) rfl rfl (fun hb190 => ?_) (fun hb190 => ?_)
    · replace h := h.1 (of_decide_eq_true hb190)
      refine y_skip ?_
      refine y_then (hK28 _ _ ?_)
      refine y_seq fun K30 hK30 => ?_
      refine y_block ?_
      refine y_seq fun K32 hK32 => ?_
      refine y_region ?_
      refine y_k (.int .i64 i7_25 : Value) w_26 rfl rfl rfl (by kernel_rfl) ?_
      refine y_k (.int .i64 (IntKind.i64.wrap (i7_25 - 2)) : Value) w_26 rfl rfl rfl (by kernel_rfl) ?_
      obtain ⟨hx33a, hx33b, h⟩ := h
      refine y_v (v := (.pointer (some ((⟨w_11.heap.size, 0, none⟩ : Addr).add (Int.toNat (IntKind.i64.wrap (i7_25 - 2))))) : Value)) (s := Instr.indexAt 96 (.pointer (some (⟨w_11.heap.size, 0, none⟩ : Addr)) : Value) (.int .i64 (IntKind.i64.wrap (i7_25 - 2)) : Value)) rfl rfl rfl (by kernel_rfl) (run_ixa1 (el := 23) (by kernel_rfl) (by kernel_rfl) hx33a hx33b) ?_
      obtain ⟨t62_27, hx34, h⟩ := h
      refine y_v (s := Instr.loadAt 23 (.pointer (some ((⟨w_11.heap.size, 0, none⟩ : Addr).add (Int.toNat (IntKind.i64.wrap (i7_25 - 2))))))) rfl rfl rfl (by kernel_rfl) (rn_load (by kernel_rfl) hx34) ?_
      refine y_k (.int .u32 t62_27 : Value) w_26 rfl rfl rfl (by kernel_rfl) ?_
      refine y_nil ?_
      refine y_then (hK32 _ _ ?_)
      refine y_seq fun K35 hK35 => ?_
      refine y_region ?_
      refine y_k (.int .i64 i7_25 : Value) w_26 rfl rfl rfl (by kernel_rfl) ?_
      refine y_k (.int .i64 (IntKind.i64.wrap (i7_25 - 15)) : Value) w_26 rfl rfl rfl (by kernel_rfl) ?_
      obtain ⟨hx36a, hx36b, h⟩ := h
      refine y_v (v := (.pointer (some ((⟨w_11.heap.size, 0, none⟩ : Addr).add (Int.toNat (IntKind.i64.wrap (i7_25 - 15))))) : Value)) (s := Instr.indexAt 96 (.pointer (some (⟨w_11.heap.size, 0, none⟩ : Addr)) : Value) (.int .i64 (IntKind.i64.wrap (i7_25 - 15)) : Value)) rfl rfl rfl (by kernel_rfl) (run_ixa1 (el := 23) (by kernel_rfl) (by kernel_rfl) hx36a hx36b) ?_
      obtain ⟨t66_28, hx37, h⟩ := h
      refine y_v (s := Instr.loadAt 23 (.pointer (some ((⟨w_11.heap.size, 0, none⟩ : Addr).add (Int.toNat (IntKind.i64.wrap (i7_25 - 15))))))) rfl rfl rfl (by kernel_rfl) (rn_load (by kernel_rfl) hx37) ?_
      refine y_k (.int .u32 t66_28 : Value) w_26 rfl rfl rfl (by kernel_rfl) ?_
      refine y_nil ?_
      refine y_then (hK35 _ _ ?_)
      obtain ⟨w_29, hwd38⟩ : ∃ wd : World, wd = w_26.drew := ⟨_, rfl⟩
      replace h := h _ hwd38
      refine t_region (wd := w_29) [] (by kernel_rfl) hwd38 SF_nil fun Q38 hE38 hp38 hS => ?_
      clear hwd38
      refine t_kw hp38 hS 0 (.int .i64 i7_25 : Value) rfl (wanted_none rfl) rfl rfl (by kernel_rfl) (fun _ _ => by kernel_rfl) fun hS => ?_
      refine t_kw hp38 hS 1 (.int .u32 t62_27 : Value) rfl (wanted_none rfl) rfl rfl (by kernel_rfl) (fun _ _ => by kernel_rfl) fun hS => ?_
      refine t_kw hp38 hS 3 (.int .u32 t62_27 : Value) rfl (wanted_none rfl) rfl rfl (by kernel_rfl) (fun _ _ => by kernel_rfl) fun hS => ?_
      refine t_kw hp38 hS 6 (.int .u32 t62_27 : Value) rfl (wanted_none rfl) rfl rfl (by kernel_rfl) (fun _ _ => by kernel_rfl) fun hS => ?_
      refine t_kw hp38 hS 7 (.int .u32 (Int.fdiv t62_27 (2 ^ 10)) : Value) rfl (wanted_none rfl) rfl rfl (by kernel_rfl) (fun _ _ => by kernel_rfl) fun hS => ?_
      refine t_kw hp38 hS 9 (.int .i64 i7_25 : Value) rfl (wanted_none rfl) rfl rfl (by kernel_rfl) (fun _ _ => by kernel_rfl) fun hS => ?_
      refine t_kw hp38 hS 10 (.int .i64 (IntKind.i64.wrap (i7_25 - 7)) : Value) rfl (wanted_none rfl) rfl rfl (by kernel_rfl) (fun _ _ => by kernel_rfl) fun hS => ?_
      obtain ⟨hx39a, hx39b, h⟩ := h
      refine t_v (s := Instr.indexAt 96 (.pointer (some (⟨w_11.heap.size, 0, none⟩ : Addr)) : Value) (.int .i64 (IntKind.i64.wrap (i7_25 - 7)) : Value)) hp38 hS 11 (.pointer (some ((⟨w_11.heap.size, 0, none⟩ : Addr).add (Int.toNat (IntKind.i64.wrap (i7_25 - 7))))) : Value) rfl (wanted_none rfl) rfl rfl (by kernel_rfl) (by kernel_rfl) (fun _ _ => run_ixa1 (el := 23) (by kernel_rfl) (by kernel_rfl) hx39a hx39b) fun hS => ?_
      obtain ⟨t79_30, hx40, h⟩ := h
      refine t_add ⟨12, [29], fun wx => wx.cell? ((⟨w_11.heap.size, 0, none⟩ : Addr).add (Int.toNat (IntKind.i64.wrap (i7_25 - 7)))) = some (.int .u32 t79_30)⟩ ?_
      replace hS := SF_on (x := ⟨12, [29], fun wx => wx.cell? ((⟨w_11.heap.size, 0, none⟩ : Addr).add (Int.toNat (IntKind.i64.wrap (i7_25 - 7)))) = some (.int .u32 t79_30)⟩) hx40 hS
      refine t_v (s := Instr.loadAt 23 (.pointer (some ((⟨w_11.heap.size, 0, none⟩ : Addr).add (Int.toNat (IntKind.i64.wrap (i7_25 - 7))))))) hp38 hS 12 (.int .u32 t79_30 : Value) rfl (wanted_none rfl) rfl rfl (by kernel_rfl) (by kernel_rfl) (fun _ hw => rn_load (by kernel_rfl) (Sw.fact (List.Mem.head _) rfl hw)) fun hS => ?_
      refine t_kw hp38 hS 14 (.int .u32 t66_28 : Value) rfl (wanted_none rfl) rfl rfl (by kernel_rfl) (fun _ _ => by kernel_rfl) fun hS => ?_
      refine t_kw hp38 hS 16 (.int .u32 t66_28 : Value) rfl (wanted_none rfl) rfl rfl (by kernel_rfl) (fun _ _ => by kernel_rfl) fun hS => ?_
      refine t_kw hp38 hS 19 (.int .u32 t66_28 : Value) rfl (wanted_none rfl) rfl rfl (by kernel_rfl) (fun _ _ => by kernel_rfl) fun hS => ?_
      refine t_kw hp38 hS 20 (.int .u32 (Int.fdiv t66_28 (2 ^ 3)) : Value) rfl (wanted_none rfl) rfl rfl (by kernel_rfl) (fun _ _ => by kernel_rfl) fun hS => ?_
      refine t_kw hp38 hS 23 (.int .i64 i7_25 : Value) rfl (wanted_none rfl) rfl rfl (by kernel_rfl) (fun _ _ => by kernel_rfl) fun hS => ?_
      refine t_kw hp38 hS 24 (.int .i64 (IntKind.i64.wrap (i7_25 - 16)) : Value) rfl (wanted_none rfl) rfl rfl (by kernel_rfl) (fun _ _ => by kernel_rfl) fun hS => ?_
      obtain ⟨hx41a, hx41b, h⟩ := h
      refine t_v (s := Instr.indexAt 96 (.pointer (some (⟨w_11.heap.size, 0, none⟩ : Addr)) : Value) (.int .i64 (IntKind.i64.wrap (i7_25 - 16)) : Value)) hp38 hS 25 (.pointer (some ((⟨w_11.heap.size, 0, none⟩ : Addr).add (Int.toNat (IntKind.i64.wrap (i7_25 - 16))))) : Value) rfl (wanted_none rfl) rfl rfl (by kernel_rfl) (by kernel_rfl) (fun _ _ => run_ixa1 (el := 23) (by kernel_rfl) (by kernel_rfl) hx41a hx41b) fun hS => ?_
      obtain ⟨t93_31, hx42, h⟩ := h
      refine t_add ⟨26, [29], fun wx => wx.cell? ((⟨w_11.heap.size, 0, none⟩ : Addr).add (Int.toNat (IntKind.i64.wrap (i7_25 - 16)))) = some (.int .u32 t93_31)⟩ ?_
      replace hS := SF_on (x := ⟨26, [29], fun wx => wx.cell? ((⟨w_11.heap.size, 0, none⟩ : Addr).add (Int.toNat (IntKind.i64.wrap (i7_25 - 16)))) = some (.int .u32 t93_31)⟩) hx42 hS
      refine t_v (s := Instr.loadAt 23 (.pointer (some ((⟨w_11.heap.size, 0, none⟩ : Addr).add (Int.toNat (IntKind.i64.wrap (i7_25 - 16))))))) hp38 hS 26 (.int .u32 t93_31 : Value) rfl (wanted_none rfl) rfl rfl (by kernel_rfl) (by kernel_rfl) (fun _ hw => rn_load (by kernel_rfl) (Sw.fact (List.Mem.head _) rfl hw)) fun hS => ?_
      refine t_call 2 (by kernel_rfl) rfl (wanted_none rfl) rfl rfl (by kernel_rfl) (h.mono ?_)
      rintro _ w_33 ⟨t69_32, rfl, hx43, hx44, h⟩
      refine ⟨_, rfl, (SF_on hx43 (SF_on hx44 SF_nil)), fun hS => ?_⟩
      refine t_call 4 (by kernel_rfl) rfl (wanted_none rfl) rfl rfl (by kernel_rfl) (h.mono ?_)
      rintro _ w_35 ⟨t71_34, rfl, hx45, hx46, h⟩
      refine ⟨_, rfl, (SF_on hx45 (SF_on hx46 SF_nil)), fun hS => ?_⟩
      refine t_kw hp38 hS 5 (.int .u32 (ibits .xor .u32 t69_32 t71_34) : Value) rfl (wanted_none rfl) rfl rfl (by kernel_rfl) (fun _ _ => by kernel_rfl) fun hS => ?_
      refine t_kw hp38 hS 8 (.int .u32 (ibits .xor .u32 (ibits .xor .u32 t69_32 t71_34) (Int.fdiv t62_27 (2 ^ 10))) : Value) rfl (wanted_none rfl) rfl rfl (by kernel_rfl) (fun _ _ => by kernel_rfl) fun hS => ?_
      refine t_kw hp38 hS 13 (.int .u32 (IntKind.u32.wrap ((ibits .xor .u32 (ibits .xor .u32 t69_32 t71_34) (Int.fdiv t62_27 (2 ^ 10))) + t79_30)) : Value) rfl (wanted_none rfl) rfl rfl (by kernel_rfl) (fun _ _ => by kernel_rfl) fun hS => ?_
      refine t_call 15 (by kernel_rfl) rfl (wanted_none rfl) rfl rfl (by kernel_rfl) (h.mono ?_)
      rintro _ w_37 ⟨t82_36, rfl, hx47, hx48, h⟩
      refine ⟨_, rfl, (SF_on hx47 (SF_on hx48 SF_nil)), fun hS => ?_⟩
      refine t_call 17 (by kernel_rfl) rfl (wanted_none rfl) rfl rfl (by kernel_rfl) (h.mono ?_)
      rintro _ w_39 ⟨t84_38, rfl, hx49, hx50, h⟩
      refine ⟨_, rfl, (SF_on hx49 (SF_on hx50 SF_nil)), fun hS => ?_⟩
      refine t_kw hp38 hS 18 (.int .u32 (ibits .xor .u32 t82_36 t84_38) : Value) rfl (wanted_none rfl) rfl rfl (by kernel_rfl) (fun _ _ => by kernel_rfl) fun hS => ?_
      refine t_kw hp38 hS 21 (.int .u32 (ibits .xor .u32 (ibits .xor .u32 t82_36 t84_38) (Int.fdiv t66_28 (2 ^ 3))) : Value) rfl (wanted_none rfl) rfl rfl (by kernel_rfl) (fun _ _ => by kernel_rfl) fun hS => ?_
      refine t_kw hp38 hS 22 (.int .u32 (IntKind.u32.wrap ((IntKind.u32.wrap ((ibits .xor .u32 (ibits .xor .u32 t69_32 t71_34) (Int.fdiv t62_27 (2 ^ 10))) + t79_30)) + (ibits .xor .u32 (ibits .xor .u32 t82_36 t84_38) (Int.fdiv t66_28 (2 ^ 3))))) : Value) rfl (wanted_none rfl) rfl rfl (by kernel_rfl) (fun _ _ => by kernel_rfl) fun hS => ?_
      refine t_kw hp38 hS 27 (.int .u32 (IntKind.u32.wrap ((IntKind.u32.wrap ((IntKind.u32.wrap ((ibits .xor .u32 (ibits .xor .u32 t69_32 t71_34) (Int.fdiv t62_27 (2 ^ 10))) + t79_30)) + (ibits .xor .u32 (ibits .xor .u32 t82_36 t84_38) (Int.fdiv t66_28 (2 ^ 3))))) + t93_31)) : Value) rfl (wanted_none rfl) rfl rfl (by kernel_rfl) (fun _ _ => by kernel_rfl) fun hS => ?_
      obtain ⟨hx51a, hx51b, h⟩ := h
      refine t_v (s := Instr.indexAt 96 (.pointer (some (⟨w_11.heap.size, 0, none⟩ : Addr)) : Value) (.int .i64 i7_25 : Value)) hp38 hS 28 (.pointer (some ((⟨w_11.heap.size, 0, none⟩ : Addr).add (Int.toNat i7_25))) : Value) rfl (wanted_none rfl) rfl rfl (by kernel_rfl) (by kernel_rfl) (fun _ _ => run_ixa1 (el := 23) (by kernel_rfl) (by kernel_rfl) hx51a hx51b) fun hS => ?_
      obtain ⟨hx52, h⟩ := h
      replace h := h _ rfl
      refine t_u 29 (s := Instr.storeAt 23 (.pointer (some ((⟨w_11.heap.size, 0, none⟩ : Addr).add (Int.toNat i7_25)))) (.int .u32 (IntKind.u32.wrap ((IntKind.u32.wrap ((IntKind.u32.wrap ((ibits .xor .u32 (ibits .xor .u32 t69_32 t71_34) (Int.fdiv t62_27 (2 ^ 10))) + t79_30)) + (ibits .xor .u32 (ibits .xor .u32 t82_36 t84_38) (Int.fdiv t66_28 (2 ^ 3))))) + t93_31)) : Value)) (by kernel_rfl) rfl (wanted_none rfl) rfl (by kernel_rfl) (rn_store1 (by kernel_rfl) rfl hx52) (SF_off (by kernel_rfl) (by kernel_rfl) (SF_off (by kernel_rfl) (by kernel_rfl) SF_nil)) fun hS => ?_
      generalize w_39.setCell ((⟨w_11.heap.size, 0, none⟩ : Addr).add (Int.toNat i7_25)) (.int .u32 (IntKind.u32.wrap ((IntKind.u32.wrap ((IntKind.u32.wrap ((ibits .xor .u32 (ibits .xor .u32 t69_32 t71_34) (Int.fdiv t62_27 (2 ^ 10))) + t79_30)) + (ibits .xor .u32 (ibits .xor .u32 t82_36 t84_38) (Int.fdiv t66_28 (2 ^ 3))))) + t93_31)) : Value) = w_40 at hS h ⊢
      refine t_done (by kernel_rfl) (hE38 _ _ ?_)
      refine e_block_n ?_
      refine y_then (hK30 _ _ ?_)
      refine y_region ?_
      refine y_k (.int .i64 i7_25 : Value) w_40 rfl rfl rfl (by kernel_rfl) ?_
      refine y_k (.int .i64 (IntKind.i64.wrap (i7_25 + 1)) : Value) w_40 rfl rfl rfl (by kernel_rfl) ?_
      refine y_k (.int .i64 (IntKind.i64.wrap (i7_25 + 1)) : Value) w_40 rfl rfl rfl (by kernel_rfl) ?_
      refine y_nil ?_
      refine y_then (hN27 (IntKind.i64.wrap (i7_25 + 1)) _ _ h ?_)
      dsimp only
      refine upd_id ?_ rfl
      refine upd_id ?_ rfl
      refine upd_id ?_ rfl
      refine upd_id ?_ rfl
      rfl
    · replace h := h.2 (of_decide_eq_false hb190)
      refine y_exit ?_
      repeat (first | refine e_then_x ?_ | refine e_block_y rfl ?_)
      refine e_block_x ?_
      refine y_then (hK23 _ _ ?_)
      refine y_seq fun K53 hK53 => ?_
      refine y_region ?_
      refine y_call rfl rfl rfl (by kernel_rfl) (h.mono ?_)
      rintro _ w_42 ⟨t96_41, rfl, h⟩
      refine ⟨_, rfl, ?_⟩
      refine y_k (.slice t96_41.a t96_41.n t96_41.c : Value) w_42 rfl rfl rfl (by kernel_rfl) ?_
      refine y_nil ?_
      refine y_then (hK53 _ _ ?_)
      refine y_seq fun K54 hK54 => ?_
      refine y_region ?_
      obtain ⟨t97_43, t97_44, t97_45, t97_46, t97_47, t97_48, t97_49, t97_50, hx55, h⟩ := h
      refine y_v (s := Instr.loadAt 94 (.pointer (some (⟨w.heap.size, 0, none⟩ : Addr)))) rfl rfl rfl (by kernel_rfl) (rn_loadcells (k := 8) ⟨by kernel_rfl, by kernel_rfl⟩ rfl hx55) ?_
      refine y_k (.pointer (some (⟨w_42.heap.size, 0, none⟩ : Addr)) : Value) (w_42.alloc (.cells #[.int .u32 0, .int .u32 0, .int .u32 0, .int .u32 0, .int .u32 0, .int .u32 0, .int .u32 0, .int .u32 0] 94)) rfl rfl rfl (by kernel_rfl) ?_
      replace h := h _ rfl
      generalize w_42.alloc (.cells #[.int .u32 0, .int .u32 0, .int .u32 0, .int .u32 0, .int .u32 0, .int .u32 0, .int .u32 0, .int .u32 0] 94) = w_51 at h ⊢
      obtain ⟨hx56, h⟩ := h
      replace h := h _ rfl
      refine y_u (s := Instr.storeAt 94 (.pointer (some (⟨w_42.heap.size, 0, none⟩ : Addr))) (.agg #[.int .u32 t97_43, .int .u32 t97_44, .int .u32 t97_45, .int .u32 t97_46, .int .u32 t97_47, .int .u32 t97_48, .int .u32 t97_49, .int .u32 t97_50] : Value)) rfl rfl (by kernel_rfl) (rn_storecells (k := 8) (cs := [.int .u32 t97_43, .int .u32 t97_44, .int .u32 t97_45, .int .u32 t97_46, .int .u32 t97_47, .int .u32 t97_48, .int .u32 t97_49, .int .u32 t97_50]) (by kernel_rfl) rfl (by simp [Value.oneCell']) hx56) ?_
      generalize setCells w_51 (⟨w_42.heap.size, 0, none⟩ : Addr) 0 [.int .u32 t97_43, .int .u32 t97_44, .int .u32 t97_45, .int .u32 t97_46, .int .u32 t97_47, .int .u32 t97_48, .int .u32 t97_49, .int .u32 t97_50] = w_52 at h ⊢
      refine y_nil ?_
      refine y_then (hK54 _ _ ?_)
      refine y_seq fun K57 hK57 => ?_
      refine y_seq fun K58 hK58 => ?_
      refine y_region ?_
      refine y_k (.int .i64 0 : Value) w_52 rfl rfl rfl (by kernel_rfl) ?_
      refine y_nil ?_
      refine y_then (hK58 _ _ ?_)
      refine y_block ?_
      refine y_loop (S := Int) (fun s j => match s with | (i12_53) => upd (upd (upd (upd (upd (upd (j) 2 (.pointer (some (⟨w.heap.size, 0, none⟩ : Addr)) : Value)) 4 (.pointer (some (⟨w_10.heap.size, 0, none⟩ : Addr)) : Value)) 5 (.pointer (some (⟨w_11.heap.size, 0, none⟩ : Addr)) : Value)) 10 (.slice t96_41.a t96_41.n t96_41.c : Value)) 11 (.pointer (some (⟨w_42.heap.size, 0, none⟩ : Addr)) : Value)) 12 (.int .i64 i12_53 : Value)) (0) ?_ h ?_
      · dsimp only
        refine upd_id ?_ rfl
        refine upd_id ?_ rfl
        refine upd_id ?_ rfl
        refine upd_id ?_ rfl
        refine upd_id ?_ rfl
        refine upd_id ?_ rfl
        rfl
      rintro KN61 next60 hN61 i12_53 j w_54 h
      unfold F77_l3 at h
      refine y_seq fun K62 hK62 => ?_
      refine y_seq fun K63 hK63 => ?_
      refine y_region ?_
      refine y_k (.int .i64 i12_53 : Value) w_54 rfl rfl rfl (by kernel_rfl) ?_
      refine y_k (.bool (decide (i12_53 < 64)) : Value) w_54 rfl rfl rfl (by kernel_rfl) ?_
      refine y_nil ?_
      refine y_then (hK63 _ _ ?_)
      refine y_cond (decide (i12_53 < 64)) rfl rfl (fun hb189 => ?_) (fun hb189 => ?_)
      · replace h := h.1 (of_decide_eq_true hb189)
        refine y_skip ?_
        refine y_then (hK62 _ _ ?_)
        refine y_seq fun K64 hK64 => ?_
        refine y_block ?_
        refine y_seq fun K66 hK66 => ?_
        obtain ⟨w_55, hwd67⟩ : ∃ wd : World, wd = w_54.drew := ⟨_, rfl⟩
        replace h := h _ hwd67
        refine t_region (wd := w_55) [] (by kernel_rfl) hwd67 SF_nil fun Q67 hE67 hp67 hS => ?_
        clear hwd67
        refine t_kw hp67 hS 0 (.pointer (some ((⟨w_42.heap.size, 0, none⟩ : Addr).add 7)) : Value) rfl (wanted_none rfl) rfl rfl (by kernel_rfl) (fun _ _ => by kernel_rfl) fun hS => ?_
        obtain ⟨t103_56, hx69, h⟩ := h
        refine t_add ⟨1, [], fun wx => wx.cell? ((⟨w_42.heap.size, 0, none⟩ : Addr).add 7) = some (.int .u32 t103_56)⟩ ?_
        replace hS := SF_on (x := ⟨1, [], fun wx => wx.cell? ((⟨w_42.heap.size, 0, none⟩ : Addr).add 7) = some (.int .u32 t103_56)⟩) hx69 hS
        refine t_v (s := Instr.loadAt 23 (.pointer (some ((⟨w_42.heap.size, 0, none⟩ : Addr).add 7)))) hp67 hS 1 (.int .u32 t103_56 : Value) rfl (wanted_none rfl) rfl rfl (by kernel_rfl) (by kernel_rfl) (fun _ hw => rn_load (by kernel_rfl) (Sw.fact (List.Mem.head _) rfl hw)) fun hS => ?_
        refine t_kw hp67 hS 2 (.pointer (some ((⟨w_42.heap.size, 0, none⟩ : Addr).add 4)) : Value) rfl (wanted_none rfl) rfl rfl (by kernel_rfl) (fun _ _ => by kernel_rfl) fun hS => ?_
        obtain ⟨t105_57, hx71, h⟩ := h
        refine t_add ⟨3, [4, 7, 11], fun wx => wx.cell? ((⟨w_42.heap.size, 0, none⟩ : Addr).add 4) = some (.int .u32 t105_57)⟩ ?_
        replace hS := SF_on (x := ⟨3, [4, 7, 11], fun wx => wx.cell? ((⟨w_42.heap.size, 0, none⟩ : Addr).add 4) = some (.int .u32 t105_57)⟩) hx71 hS
        refine t_v (s := Instr.loadAt 23 (.pointer (some ((⟨w_42.heap.size, 0, none⟩ : Addr).add 4)))) hp67 hS 3 (.int .u32 t105_57 : Value) rfl (wanted_none rfl) rfl rfl (by kernel_rfl) (by kernel_rfl) (fun _ hw => rn_load (by kernel_rfl) (Sw.fact (List.Mem.head _) rfl hw)) fun hS => ?_
        refine t_kw hp67 hS 5 (.pointer (some ((⟨w_42.heap.size, 0, none⟩ : Addr).add 4)) : Value) rfl (wanted_none rfl) rfl rfl (by kernel_rfl) (fun _ _ => by kernel_rfl) fun hS => ?_
        obtain ⟨t108_58, hx73, h⟩ := h
        refine t_add ⟨6, [7, 11], fun wx => wx.cell? ((⟨w_42.heap.size, 0, none⟩ : Addr).add 4) = some (.int .u32 t108_58)⟩ ?_
        replace hS := SF_on (x := ⟨6, [7, 11], fun wx => wx.cell? ((⟨w_42.heap.size, 0, none⟩ : Addr).add 4) = some (.int .u32 t108_58)⟩) hx73 hS
        refine t_v (s := Instr.loadAt 23 (.pointer (some ((⟨w_42.heap.size, 0, none⟩ : Addr).add 4)))) hp67 hS 6 (.int .u32 t108_58 : Value) rfl (wanted_none rfl) rfl rfl (by kernel_rfl) (by kernel_rfl) (fun _ hw => rn_load (by kernel_rfl) (Sw.fact (List.Mem.head _) rfl hw)) fun hS => ?_
        refine t_kw hp67 hS 9 (.pointer (some ((⟨w_42.heap.size, 0, none⟩ : Addr).add 4)) : Value) rfl (wanted_none rfl) rfl rfl (by kernel_rfl) (fun _ _ => by kernel_rfl) fun hS => ?_
        obtain ⟨t112_59, hx75, h⟩ := h
        refine t_add ⟨10, [11], fun wx => wx.cell? ((⟨w_42.heap.size, 0, none⟩ : Addr).add 4) = some (.int .u32 t112_59)⟩ ?_
        replace hS := SF_on (x := ⟨10, [11], fun wx => wx.cell? ((⟨w_42.heap.size, 0, none⟩ : Addr).add 4) = some (.int .u32 t112_59)⟩) hx75 hS
        refine t_v (s := Instr.loadAt 23 (.pointer (some ((⟨w_42.heap.size, 0, none⟩ : Addr).add 4)))) hp67 hS 10 (.int .u32 t112_59 : Value) rfl (wanted_none rfl) rfl rfl (by kernel_rfl) (by kernel_rfl) (fun _ hw => rn_load (by kernel_rfl) (Sw.fact (List.Mem.head _) rfl hw)) fun hS => ?_
        refine t_kw hp67 hS 14 (.pointer (some ((⟨w_42.heap.size, 0, none⟩ : Addr).add 4)) : Value) rfl (wanted_none rfl) rfl rfl (by kernel_rfl) (fun _ _ => by kernel_rfl) fun hS => ?_
        obtain ⟨t117_60, hx77, h⟩ := h
        refine t_add ⟨15, [], fun wx => wx.cell? ((⟨w_42.heap.size, 0, none⟩ : Addr).add 4) = some (.int .u32 t117_60)⟩ ?_
        replace hS := SF_on (x := ⟨15, [], fun wx => wx.cell? ((⟨w_42.heap.size, 0, none⟩ : Addr).add 4) = some (.int .u32 t117_60)⟩) hx77 hS
        refine t_v (s := Instr.loadAt 23 (.pointer (some ((⟨w_42.heap.size, 0, none⟩ : Addr).add 4)))) hp67 hS 15 (.int .u32 t117_60 : Value) rfl (wanted_none rfl) rfl rfl (by kernel_rfl) (by kernel_rfl) (fun _ hw => rn_load (by kernel_rfl) (Sw.fact (List.Mem.head _) rfl hw)) fun hS => ?_
        refine t_kw hp67 hS 16 (.pointer (some ((⟨w_42.heap.size, 0, none⟩ : Addr).add 5)) : Value) rfl (wanted_none rfl) rfl rfl (by kernel_rfl) (fun _ _ => by kernel_rfl) fun hS => ?_
        obtain ⟨t119_61, hx79, h⟩ := h
        refine t_add ⟨17, [], fun wx => wx.cell? ((⟨w_42.heap.size, 0, none⟩ : Addr).add 5) = some (.int .u32 t119_61)⟩ ?_
        replace hS := SF_on (x := ⟨17, [], fun wx => wx.cell? ((⟨w_42.heap.size, 0, none⟩ : Addr).add 5) = some (.int .u32 t119_61)⟩) hx79 hS
        refine t_v (s := Instr.loadAt 23 (.pointer (some ((⟨w_42.heap.size, 0, none⟩ : Addr).add 5)))) hp67 hS 17 (.int .u32 t119_61 : Value) rfl (wanted_none rfl) rfl rfl (by kernel_rfl) (by kernel_rfl) (fun _ hw => rn_load (by kernel_rfl) (Sw.fact (List.Mem.head _) rfl hw)) fun hS => ?_
        refine t_kw hp67 hS 18 (.int .u32 (ibits .and .u32 t117_60 t119_61) : Value) rfl (wanted_none rfl) rfl rfl (by kernel_rfl) (fun _ _ => by kernel_rfl) fun hS => ?_
        refine t_kw hp67 hS 19 (.pointer (some ((⟨w_42.heap.size, 0, none⟩ : Addr).add 4)) : Value) rfl (wanted_none rfl) rfl rfl (by kernel_rfl) (fun _ _ => by kernel_rfl) fun hS => ?_
        obtain ⟨t122_62, hx81, h⟩ := h
        refine t_add ⟨20, [], fun wx => wx.cell? ((⟨w_42.heap.size, 0, none⟩ : Addr).add 4) = some (.int .u32 t122_62)⟩ ?_
        replace hS := SF_on (x := ⟨20, [], fun wx => wx.cell? ((⟨w_42.heap.size, 0, none⟩ : Addr).add 4) = some (.int .u32 t122_62)⟩) hx81 hS
        refine t_v (s := Instr.loadAt 23 (.pointer (some ((⟨w_42.heap.size, 0, none⟩ : Addr).add 4)))) hp67 hS 20 (.int .u32 t122_62 : Value) rfl (wanted_none rfl) rfl rfl (by kernel_rfl) (by kernel_rfl) (fun _ hw => rn_load (by kernel_rfl) (Sw.fact (List.Mem.head _) rfl hw)) fun hS => ?_
        refine t_kw hp67 hS 21 (.int .u32 (ibits .xor .u32 4294967295 t122_62) : Value) rfl (wanted_none rfl) rfl rfl (by kernel_rfl) (fun _ _ => by kernel_rfl) fun hS => ?_
        refine t_kw hp67 hS 22 (.pointer (some ((⟨w_42.heap.size, 0, none⟩ : Addr).add 6)) : Value) rfl (wanted_none rfl) rfl rfl (by kernel_rfl) (fun _ _ => by kernel_rfl) fun hS => ?_
        obtain ⟨t125_63, hx83, h⟩ := h
        refine t_add ⟨23, [], fun wx => wx.cell? ((⟨w_42.heap.size, 0, none⟩ : Addr).add 6) = some (.int .u32 t125_63)⟩ ?_
        replace hS := SF_on (x := ⟨23, [], fun wx => wx.cell? ((⟨w_42.heap.size, 0, none⟩ : Addr).add 6) = some (.int .u32 t125_63)⟩) hx83 hS
        refine t_v (s := Instr.loadAt 23 (.pointer (some ((⟨w_42.heap.size, 0, none⟩ : Addr).add 6)))) hp67 hS 23 (.int .u32 t125_63 : Value) rfl (wanted_none rfl) rfl rfl (by kernel_rfl) (by kernel_rfl) (fun _ hw => rn_load (by kernel_rfl) (Sw.fact (List.Mem.head _) rfl hw)) fun hS => ?_
        refine t_kw hp67 hS 24 (.int .u32 (ibits .and .u32 (ibits .xor .u32 4294967295 t122_62) t125_63) : Value) rfl (wanted_none rfl) rfl rfl (by kernel_rfl) (fun _ _ => by kernel_rfl) fun hS => ?_
        refine t_kw hp67 hS 25 (.int .u32 (ibits .xor .u32 (ibits .and .u32 t117_60 t119_61) (ibits .and .u32 (ibits .xor .u32 4294967295 t122_62) t125_63)) : Value) rfl (wanted_none rfl) rfl rfl (by kernel_rfl) (fun _ _ => by kernel_rfl) fun hS => ?_
        refine t_kw hp67 hS 27 (.slice t96_41.a t96_41.n t96_41.c : Value) rfl (wanted_none rfl) rfl rfl (by kernel_rfl) (fun _ _ => by kernel_rfl) fun hS => ?_
        refine t_kw hp67 hS 28 (.int .i64 i12_53 : Value) rfl (wanted_none rfl) rfl rfl (by kernel_rfl) (fun _ _ => by kernel_rfl) fun hS => ?_
        obtain ⟨hx84a, hx84b, a_64, hx84, h⟩ := h
        refine t_v (s := Instr.indexAt 22 (.slice t96_41.a t96_41.n t96_41.c : Value) (.int .i64 i12_53 : Value)) hp67 hS 29 (.pointer (some (a_64.add (Int.toNat i12_53))) : Value) rfl (wanted_none rfl) rfl rfl (by kernel_rfl) (by kernel_rfl) (fun _ _ => run_ixs1 (el := 23) (by kernel_rfl) (by kernel_rfl) hx84 hx84a hx84b) fun hS => ?_
        obtain ⟨t132_65, hx85, h⟩ := h
        refine t_add ⟨30, [], fun wx => wx.cell? (a_64.add (Int.toNat i12_53)) = some (.int .u32 t132_65)⟩ ?_
        replace hS := SF_on (x := ⟨30, [], fun wx => wx.cell? (a_64.add (Int.toNat i12_53)) = some (.int .u32 t132_65)⟩) hx85 hS
        refine t_v (s := Instr.loadAt 23 (.pointer (some (a_64.add (Int.toNat i12_53))))) hp67 hS 30 (.int .u32 t132_65 : Value) rfl (wanted_none rfl) rfl rfl (by kernel_rfl) (by kernel_rfl) (fun _ hw => rn_load (by kernel_rfl) (Sw.fact (List.Mem.head _) rfl hw)) fun hS => ?_
        refine t_kw hp67 hS 32 (.int .i64 i12_53 : Value) rfl (wanted_none rfl) rfl rfl (by kernel_rfl) (fun _ _ => by kernel_rfl) fun hS => ?_
        obtain ⟨hx86a, hx86b, h⟩ := h
        refine t_v (s := Instr.indexAt 96 (.pointer (some (⟨w_11.heap.size, 0, none⟩ : Addr)) : Value) (.int .i64 i12_53 : Value)) hp67 hS 33 (.pointer (some ((⟨w_11.heap.size, 0, none⟩ : Addr).add (Int.toNat i12_53))) : Value) rfl (wanted_none rfl) rfl rfl (by kernel_rfl) (by kernel_rfl) (fun _ _ => run_ixa1 (el := 23) (by kernel_rfl) (by kernel_rfl) hx86a hx86b) fun hS => ?_
        obtain ⟨t136_66, hx87, h⟩ := h
        refine t_add ⟨34, [], fun wx => wx.cell? ((⟨w_11.heap.size, 0, none⟩ : Addr).add (Int.toNat i12_53)) = some (.int .u32 t136_66)⟩ ?_
        replace hS := SF_on (x := ⟨34, [], fun wx => wx.cell? ((⟨w_11.heap.size, 0, none⟩ : Addr).add (Int.toNat i12_53)) = some (.int .u32 t136_66)⟩) hx87 hS
        refine t_v (s := Instr.loadAt 23 (.pointer (some ((⟨w_11.heap.size, 0, none⟩ : Addr).add (Int.toNat i12_53))))) hp67 hS 34 (.int .u32 t136_66 : Value) rfl (wanted_none rfl) rfl rfl (by kernel_rfl) (by kernel_rfl) (fun _ hw => rn_load (by kernel_rfl) (Sw.fact (List.Mem.head _) rfl hw)) fun hS => ?_
        refine t_call 4 (by kernel_rfl) rfl (wanted_none rfl) rfl rfl (by kernel_rfl) (h.mono ?_)
        rintro _ w_68 ⟨t106_67, rfl, hx88, hx89, hx90, hx91, hx92, hx93, hx94, hx95, hx96, h⟩
        refine ⟨_, rfl, (SF_on hx88 (SF_on hx89 (SF_on hx90 (SF_on hx91 (SF_on hx92 (SF_on hx93 (SF_on hx94 (SF_on hx95 (SF_off (by kernel_rfl) (by kernel_rfl) (SF_on hx96 SF_nil)))))))))), fun hS => ?_⟩
        refine t_call 7 (by kernel_rfl) rfl (wanted_none rfl) rfl rfl (by kernel_rfl) (h.mono ?_)
        rintro _ w_70 ⟨t109_69, rfl, hx97, hx98, hx99, hx100, hx101, hx102, hx103, hx104, h⟩
        refine ⟨_, rfl, (SF_on hx97 (SF_on hx98 (SF_on hx99 (SF_on hx100 (SF_on hx101 (SF_on hx102 (SF_on hx103 (SF_off (by kernel_rfl) (by kernel_rfl) (SF_off (by kernel_rfl) (by kernel_rfl) (SF_on hx104 SF_nil)))))))))), fun hS => ?_⟩
        refine t_kw hp67 hS 8 (.int .u32 (ibits .xor .u32 t106_67 t109_69) : Value) rfl (wanted_none rfl) rfl rfl (by kernel_rfl) (fun _ _ => by kernel_rfl) fun hS => ?_
        refine t_call 11 (by kernel_rfl) rfl (wanted_none rfl) rfl rfl (by kernel_rfl) (h.mono ?_)
        rintro _ w_72 ⟨t113_71, rfl, hx105, hx106, hx107, hx108, hx109, hx110, hx111, h⟩
        refine ⟨_, rfl, (SF_on hx105 (SF_on hx106 (SF_on hx107 (SF_on hx108 (SF_on hx109 (SF_on hx110 (SF_off (by kernel_rfl) (by kernel_rfl) (SF_off (by kernel_rfl) (by kernel_rfl) (SF_off (by kernel_rfl) (by kernel_rfl) (SF_on hx111 SF_nil)))))))))), fun hS => ?_⟩
        refine t_kw hp67 hS 12 (.int .u32 (ibits .xor .u32 (ibits .xor .u32 t106_67 t109_69) t113_71) : Value) rfl (wanted_none rfl) rfl rfl (by kernel_rfl) (fun _ _ => by kernel_rfl) fun hS => ?_
        refine t_kw hp67 hS 13 (.int .u32 (IntKind.u32.wrap (t103_56 + (ibits .xor .u32 (ibits .xor .u32 t106_67 t109_69) t113_71))) : Value) rfl (wanted_none rfl) rfl rfl (by kernel_rfl) (fun _ _ => by kernel_rfl) fun hS => ?_
        refine t_kw hp67 hS 26 (.int .u32 (IntKind.u32.wrap ((IntKind.u32.wrap (t103_56 + (ibits .xor .u32 (ibits .xor .u32 t106_67 t109_69) t113_71))) + (ibits .xor .u32 (ibits .and .u32 t117_60 t119_61) (ibits .and .u32 (ibits .xor .u32 4294967295 t122_62) t125_63)))) : Value) rfl (wanted_none rfl) rfl rfl (by kernel_rfl) (fun _ _ => by kernel_rfl) fun hS => ?_
        refine t_kw hp67 hS 31 (.int .u32 (IntKind.u32.wrap ((IntKind.u32.wrap ((IntKind.u32.wrap (t103_56 + (ibits .xor .u32 (ibits .xor .u32 t106_67 t109_69) t113_71))) + (ibits .xor .u32 (ibits .and .u32 t117_60 t119_61) (ibits .and .u32 (ibits .xor .u32 4294967295 t122_62) t125_63)))) + t132_65)) : Value) rfl (wanted_none rfl) rfl rfl (by kernel_rfl) (fun _ _ => by kernel_rfl) fun hS => ?_
        refine t_kw hp67 hS 35 (.int .u32 (IntKind.u32.wrap ((IntKind.u32.wrap ((IntKind.u32.wrap ((IntKind.u32.wrap (t103_56 + (ibits .xor .u32 (ibits .xor .u32 t106_67 t109_69) t113_71))) + (ibits .xor .u32 (ibits .and .u32 t117_60 t119_61) (ibits .and .u32 (ibits .xor .u32 4294967295 t122_62) t125_63)))) + t132_65)) + t136_66)) : Value) rfl (wanted_none rfl) rfl rfl (by kernel_rfl) (fun _ _ => by kernel_rfl) fun hS => ?_
        refine t_kw hp67 hS 36 (.int .u32 (IntKind.u32.wrap ((IntKind.u32.wrap ((IntKind.u32.wrap ((IntKind.u32.wrap (t103_56 + (ibits .xor .u32 (ibits .xor .u32 t106_67 t109_69) t113_71))) + (ibits .xor .u32 (ibits .and .u32 t117_60 t119_61) (ibits .and .u32 (ibits .xor .u32 4294967295 t122_62) t125_63)))) + t132_65)) + t136_66)) : Value) rfl (wanted_none rfl) rfl rfl (by kernel_rfl) (fun _ _ => by kernel_rfl) fun hS => ?_
        refine t_done (by kernel_rfl) (hE67 _ _ ?_)
        refine y_then (hK66 _ _ ?_)
        refine y_seq fun K112 hK112 => ?_
        obtain ⟨w_73, hwd113⟩ : ∃ wd : World, wd = w_72.drew := ⟨_, rfl⟩
        replace h := h _ hwd113
        refine t_region (wd := w_73) [] (by kernel_rfl) hwd113 SF_nil fun Q113 hE113 hp113 hS => ?_
        clear hwd113
        refine t_kw hp113 hS 0 (.pointer (some (⟨w_42.heap.size, 0, none⟩ : Addr)) : Value) rfl (wanted_none rfl) rfl rfl (by kernel_rfl) (fun _ _ => by kernel_rfl) fun hS => ?_
        obtain ⟨t139_74, hx115, h⟩ := h
        refine t_add ⟨1, [2, 5, 9], fun wx => wx.cell? (⟨w_42.heap.size, 0, none⟩ : Addr) = some (.int .u32 t139_74)⟩ ?_
        replace hS := SF_on (x := ⟨1, [2, 5, 9], fun wx => wx.cell? (⟨w_42.heap.size, 0, none⟩ : Addr) = some (.int .u32 t139_74)⟩) hx115 hS
        refine t_v (s := Instr.loadAt 23 (.pointer (some (⟨w_42.heap.size, 0, none⟩ : Addr)))) hp113 hS 1 (.int .u32 t139_74 : Value) rfl (wanted_none rfl) rfl rfl (by kernel_rfl) (by kernel_rfl) (fun _ hw => rn_load (by kernel_rfl) (Sw.fact (List.Mem.head _) rfl hw)) fun hS => ?_
        refine t_kw hp113 hS 3 (.pointer (some (⟨w_42.heap.size, 0, none⟩ : Addr)) : Value) rfl (wanted_none rfl) rfl rfl (by kernel_rfl) (fun _ _ => by kernel_rfl) fun hS => ?_
        obtain ⟨t142_75, hx117, h⟩ := h
        refine t_add ⟨4, [5, 9], fun wx => wx.cell? (⟨w_42.heap.size, 0, none⟩ : Addr) = some (.int .u32 t142_75)⟩ ?_
        replace hS := SF_on (x := ⟨4, [5, 9], fun wx => wx.cell? (⟨w_42.heap.size, 0, none⟩ : Addr) = some (.int .u32 t142_75)⟩) hx117 hS
        refine t_v (s := Instr.loadAt 23 (.pointer (some (⟨w_42.heap.size, 0, none⟩ : Addr)))) hp113 hS 4 (.int .u32 t142_75 : Value) rfl (wanted_none rfl) rfl rfl (by kernel_rfl) (by kernel_rfl) (fun _ hw => rn_load (by kernel_rfl) (Sw.fact (List.Mem.head _) rfl hw)) fun hS => ?_
        refine t_kw hp113 hS 7 (.pointer (some (⟨w_42.heap.size, 0, none⟩ : Addr)) : Value) rfl (wanted_none rfl) rfl rfl (by kernel_rfl) (fun _ _ => by kernel_rfl) fun hS => ?_
        obtain ⟨t146_76, hx119, h⟩ := h
        refine t_add ⟨8, [9], fun wx => wx.cell? (⟨w_42.heap.size, 0, none⟩ : Addr) = some (.int .u32 t146_76)⟩ ?_
        replace hS := SF_on (x := ⟨8, [9], fun wx => wx.cell? (⟨w_42.heap.size, 0, none⟩ : Addr) = some (.int .u32 t146_76)⟩) hx119 hS
        refine t_v (s := Instr.loadAt 23 (.pointer (some (⟨w_42.heap.size, 0, none⟩ : Addr)))) hp113 hS 8 (.int .u32 t146_76 : Value) rfl (wanted_none rfl) rfl rfl (by kernel_rfl) (by kernel_rfl) (fun _ hw => rn_load (by kernel_rfl) (Sw.fact (List.Mem.head _) rfl hw)) fun hS => ?_
        refine t_kw hp113 hS 11 (.pointer (some (⟨w_42.heap.size, 0, none⟩ : Addr)) : Value) rfl (wanted_none rfl) rfl rfl (by kernel_rfl) (fun _ _ => by kernel_rfl) fun hS => ?_
        obtain ⟨t150_77, hx121, h⟩ := h
        refine t_add ⟨12, [], fun wx => wx.cell? (⟨w_42.heap.size, 0, none⟩ : Addr) = some (.int .u32 t150_77)⟩ ?_
        replace hS := SF_on (x := ⟨12, [], fun wx => wx.cell? (⟨w_42.heap.size, 0, none⟩ : Addr) = some (.int .u32 t150_77)⟩) hx121 hS
        refine t_v (s := Instr.loadAt 23 (.pointer (some (⟨w_42.heap.size, 0, none⟩ : Addr)))) hp113 hS 12 (.int .u32 t150_77 : Value) rfl (wanted_none rfl) rfl rfl (by kernel_rfl) (by kernel_rfl) (fun _ hw => rn_load (by kernel_rfl) (Sw.fact (List.Mem.head _) rfl hw)) fun hS => ?_
        refine t_kw hp113 hS 13 (.pointer (some ((⟨w_42.heap.size, 0, none⟩ : Addr).add 1)) : Value) rfl (wanted_none rfl) rfl rfl (by kernel_rfl) (fun _ _ => by kernel_rfl) fun hS => ?_
        obtain ⟨t152_78, hx123, h⟩ := h
        refine t_add ⟨14, [], fun wx => wx.cell? ((⟨w_42.heap.size, 0, none⟩ : Addr).add 1) = some (.int .u32 t152_78)⟩ ?_
        replace hS := SF_on (x := ⟨14, [], fun wx => wx.cell? ((⟨w_42.heap.size, 0, none⟩ : Addr).add 1) = some (.int .u32 t152_78)⟩) hx123 hS
        refine t_v (s := Instr.loadAt 23 (.pointer (some ((⟨w_42.heap.size, 0, none⟩ : Addr).add 1)))) hp113 hS 14 (.int .u32 t152_78 : Value) rfl (wanted_none rfl) rfl rfl (by kernel_rfl) (by kernel_rfl) (fun _ hw => rn_load (by kernel_rfl) (Sw.fact (List.Mem.head _) rfl hw)) fun hS => ?_
        refine t_kw hp113 hS 15 (.int .u32 (ibits .and .u32 t150_77 t152_78) : Value) rfl (wanted_none rfl) rfl rfl (by kernel_rfl) (fun _ _ => by kernel_rfl) fun hS => ?_
        refine t_kw hp113 hS 16 (.pointer (some (⟨w_42.heap.size, 0, none⟩ : Addr)) : Value) rfl (wanted_none rfl) rfl rfl (by kernel_rfl) (fun _ _ => by kernel_rfl) fun hS => ?_
        obtain ⟨t155_79, hx125, h⟩ := h
        refine t_add ⟨17, [], fun wx => wx.cell? (⟨w_42.heap.size, 0, none⟩ : Addr) = some (.int .u32 t155_79)⟩ ?_
        replace hS := SF_on (x := ⟨17, [], fun wx => wx.cell? (⟨w_42.heap.size, 0, none⟩ : Addr) = some (.int .u32 t155_79)⟩) hx125 hS
        refine t_v (s := Instr.loadAt 23 (.pointer (some (⟨w_42.heap.size, 0, none⟩ : Addr)))) hp113 hS 17 (.int .u32 t155_79 : Value) rfl (wanted_none rfl) rfl rfl (by kernel_rfl) (by kernel_rfl) (fun _ hw => rn_load (by kernel_rfl) (Sw.fact (List.Mem.head _) rfl hw)) fun hS => ?_
        refine t_kw hp113 hS 18 (.pointer (some ((⟨w_42.heap.size, 0, none⟩ : Addr).add 2)) : Value) rfl (wanted_none rfl) rfl rfl (by kernel_rfl) (fun _ _ => by kernel_rfl) fun hS => ?_
        obtain ⟨t157_80, hx127, h⟩ := h
        refine t_add ⟨19, [], fun wx => wx.cell? ((⟨w_42.heap.size, 0, none⟩ : Addr).add 2) = some (.int .u32 t157_80)⟩ ?_
        replace hS := SF_on (x := ⟨19, [], fun wx => wx.cell? ((⟨w_42.heap.size, 0, none⟩ : Addr).add 2) = some (.int .u32 t157_80)⟩) hx127 hS
        refine t_v (s := Instr.loadAt 23 (.pointer (some ((⟨w_42.heap.size, 0, none⟩ : Addr).add 2)))) hp113 hS 19 (.int .u32 t157_80 : Value) rfl (wanted_none rfl) rfl rfl (by kernel_rfl) (by kernel_rfl) (fun _ hw => rn_load (by kernel_rfl) (Sw.fact (List.Mem.head _) rfl hw)) fun hS => ?_
        refine t_kw hp113 hS 20 (.int .u32 (ibits .and .u32 t155_79 t157_80) : Value) rfl (wanted_none rfl) rfl rfl (by kernel_rfl) (fun _ _ => by kernel_rfl) fun hS => ?_
        refine t_kw hp113 hS 21 (.int .u32 (ibits .xor .u32 (ibits .and .u32 t150_77 t152_78) (ibits .and .u32 t155_79 t157_80)) : Value) rfl (wanted_none rfl) rfl rfl (by kernel_rfl) (fun _ _ => by kernel_rfl) fun hS => ?_
        refine t_kw hp113 hS 22 (.pointer (some ((⟨w_42.heap.size, 0, none⟩ : Addr).add 1)) : Value) rfl (wanted_none rfl) rfl rfl (by kernel_rfl) (fun _ _ => by kernel_rfl) fun hS => ?_
        obtain ⟨t161_81, hx129, h⟩ := h
        refine t_add ⟨23, [], fun wx => wx.cell? ((⟨w_42.heap.size, 0, none⟩ : Addr).add 1) = some (.int .u32 t161_81)⟩ ?_
        replace hS := SF_on (x := ⟨23, [], fun wx => wx.cell? ((⟨w_42.heap.size, 0, none⟩ : Addr).add 1) = some (.int .u32 t161_81)⟩) hx129 hS
        refine t_v (s := Instr.loadAt 23 (.pointer (some ((⟨w_42.heap.size, 0, none⟩ : Addr).add 1)))) hp113 hS 23 (.int .u32 t161_81 : Value) rfl (wanted_none rfl) rfl rfl (by kernel_rfl) (by kernel_rfl) (fun _ hw => rn_load (by kernel_rfl) (Sw.fact (List.Mem.head _) rfl hw)) fun hS => ?_
        refine t_kw hp113 hS 24 (.pointer (some ((⟨w_42.heap.size, 0, none⟩ : Addr).add 2)) : Value) rfl (wanted_none rfl) rfl rfl (by kernel_rfl) (fun _ _ => by kernel_rfl) fun hS => ?_
        obtain ⟨t163_82, hx131, h⟩ := h
        refine t_add ⟨25, [], fun wx => wx.cell? ((⟨w_42.heap.size, 0, none⟩ : Addr).add 2) = some (.int .u32 t163_82)⟩ ?_
        replace hS := SF_on (x := ⟨25, [], fun wx => wx.cell? ((⟨w_42.heap.size, 0, none⟩ : Addr).add 2) = some (.int .u32 t163_82)⟩) hx131 hS
        refine t_v (s := Instr.loadAt 23 (.pointer (some ((⟨w_42.heap.size, 0, none⟩ : Addr).add 2)))) hp113 hS 25 (.int .u32 t163_82 : Value) rfl (wanted_none rfl) rfl rfl (by kernel_rfl) (by kernel_rfl) (fun _ hw => rn_load (by kernel_rfl) (Sw.fact (List.Mem.head _) rfl hw)) fun hS => ?_
        refine t_kw hp113 hS 26 (.int .u32 (ibits .and .u32 t161_81 t163_82) : Value) rfl (wanted_none rfl) rfl rfl (by kernel_rfl) (fun _ _ => by kernel_rfl) fun hS => ?_
        refine t_kw hp113 hS 27 (.int .u32 (ibits .xor .u32 (ibits .xor .u32 (ibits .and .u32 t150_77 t152_78) (ibits .and .u32 t155_79 t157_80)) (ibits .and .u32 t161_81 t163_82)) : Value) rfl (wanted_none rfl) rfl rfl (by kernel_rfl) (fun _ _ => by kernel_rfl) fun hS => ?_
        refine t_call 2 (by kernel_rfl) rfl (wanted_none rfl) rfl rfl (by kernel_rfl) (h.mono ?_)
        rintro _ w_84 ⟨t140_83, rfl, hx132, hx133, hx134, hx135, hx136, hx137, hx138, hx139, h⟩
        refine ⟨_, rfl, (SF_on hx132 (SF_on hx133 (SF_on hx134 (SF_on hx135 (SF_on hx136 (SF_on hx137 (SF_on hx138 (SF_on hx139 (SF_off (by kernel_rfl) (by kernel_rfl) SF_nil))))))))), fun hS => ?_⟩
        refine t_call 5 (by kernel_rfl) rfl (wanted_none rfl) rfl rfl (by kernel_rfl) (h.mono ?_)
        rintro _ w_86 ⟨t143_85, rfl, hx140, hx141, hx142, hx143, hx144, hx145, hx146, h⟩
        refine ⟨_, rfl, (SF_on hx140 (SF_on hx141 (SF_on hx142 (SF_on hx143 (SF_on hx144 (SF_on hx145 (SF_on hx146 (SF_off (by kernel_rfl) (by kernel_rfl) (SF_off (by kernel_rfl) (by kernel_rfl) SF_nil))))))))), fun hS => ?_⟩
        refine t_kw hp113 hS 6 (.int .u32 (ibits .xor .u32 t140_83 t143_85) : Value) rfl (wanted_none rfl) rfl rfl (by kernel_rfl) (fun _ _ => by kernel_rfl) fun hS => ?_
        refine t_call 9 (by kernel_rfl) rfl (wanted_none rfl) rfl rfl (by kernel_rfl) (h.mono ?_)
        rintro _ w_88 ⟨t147_87, rfl, hx147, hx148, hx149, hx150, hx151, hx152, h⟩
        refine ⟨_, rfl, (SF_on hx147 (SF_on hx148 (SF_on hx149 (SF_on hx150 (SF_on hx151 (SF_on hx152 (SF_off (by kernel_rfl) (by kernel_rfl) (SF_off (by kernel_rfl) (by kernel_rfl) (SF_off (by kernel_rfl) (by kernel_rfl) SF_nil))))))))), fun hS => ?_⟩
        refine t_kw hp113 hS 10 (.int .u32 (ibits .xor .u32 (ibits .xor .u32 t140_83 t143_85) t147_87) : Value) rfl (wanted_none rfl) rfl rfl (by kernel_rfl) (fun _ _ => by kernel_rfl) fun hS => ?_
        refine t_kw hp113 hS 28 (.int .u32 (IntKind.u32.wrap ((ibits .xor .u32 (ibits .xor .u32 t140_83 t143_85) t147_87) + (ibits .xor .u32 (ibits .xor .u32 (ibits .and .u32 t150_77 t152_78) (ibits .and .u32 t155_79 t157_80)) (ibits .and .u32 t161_81 t163_82)))) : Value) rfl (wanted_none rfl) rfl rfl (by kernel_rfl) (fun _ _ => by kernel_rfl) fun hS => ?_
        refine t_kw hp113 hS 29 (.int .u32 (IntKind.u32.wrap ((ibits .xor .u32 (ibits .xor .u32 t140_83 t143_85) t147_87) + (ibits .xor .u32 (ibits .xor .u32 (ibits .and .u32 t150_77 t152_78) (ibits .and .u32 t155_79 t157_80)) (ibits .and .u32 t161_81 t163_82)))) : Value) rfl (wanted_none rfl) rfl rfl (by kernel_rfl) (fun _ _ => by kernel_rfl) fun hS => ?_
        refine t_done (by kernel_rfl) (hE113 _ _ ?_)
        refine y_then (hK112 _ _ ?_)
        refine y_region ?_
        refine y_k (.int .u32 (IntKind.u32.wrap ((IntKind.u32.wrap ((IntKind.u32.wrap ((IntKind.u32.wrap (t103_56 + (ibits .xor .u32 (ibits .xor .u32 t106_67 t109_69) t113_71))) + (ibits .xor .u32 (ibits .and .u32 t117_60 t119_61) (ibits .and .u32 (ibits .xor .u32 4294967295 t122_62) t125_63)))) + t132_65)) + t136_66)) : Value) w_88 rfl rfl rfl (by kernel_rfl) ?_
        refine y_k (.int .u32 (IntKind.u32.wrap ((ibits .xor .u32 (ibits .xor .u32 t140_83 t143_85) t147_87) + (ibits .xor .u32 (ibits .xor .u32 (ibits .and .u32 t150_77 t152_78) (ibits .and .u32 t155_79 t157_80)) (ibits .and .u32 t161_81 t163_82)))) : Value) w_88 rfl rfl rfl (by kernel_rfl) ?_
        refine y_k (.int .u32 (IntKind.u32.wrap ((IntKind.u32.wrap ((IntKind.u32.wrap ((IntKind.u32.wrap ((IntKind.u32.wrap (t103_56 + (ibits .xor .u32 (ibits .xor .u32 t106_67 t109_69) t113_71))) + (ibits .xor .u32 (ibits .and .u32 t117_60 t119_61) (ibits .and .u32 (ibits .xor .u32 4294967295 t122_62) t125_63)))) + t132_65)) + t136_66)) + (IntKind.u32.wrap ((ibits .xor .u32 (ibits .xor .u32 t140_83 t143_85) t147_87) + (ibits .xor .u32 (ibits .xor .u32 (ibits .and .u32 t150_77 t152_78) (ibits .and .u32 t155_79 t157_80)) (ibits .and .u32 t161_81 t163_82)))))) : Value) w_88 rfl rfl rfl (by kernel_rfl) ?_
        refine y_k (.pointer (some (⟨w_42.heap.size, 0, none⟩ : Addr)) : Value) w_88 rfl rfl rfl (by kernel_rfl) ?_
        obtain ⟨t171_89, hx154, h⟩ := h
        refine y_v (s := Instr.loadAt 23 (.pointer (some (⟨w_42.heap.size, 0, none⟩ : Addr)))) rfl rfl rfl (by kernel_rfl) (rn_load (by kernel_rfl) hx154) ?_
        refine y_k (.pointer (some ((⟨w_42.heap.size, 0, none⟩ : Addr).add 1)) : Value) w_88 rfl rfl rfl (by kernel_rfl) ?_
        obtain ⟨t173_90, hx156, h⟩ := h
        refine y_v (s := Instr.loadAt 23 (.pointer (some ((⟨w_42.heap.size, 0, none⟩ : Addr).add 1)))) rfl rfl rfl (by kernel_rfl) (rn_load (by kernel_rfl) hx156) ?_
        refine y_k (.pointer (some ((⟨w_42.heap.size, 0, none⟩ : Addr).add 2)) : Value) w_88 rfl rfl rfl (by kernel_rfl) ?_
        obtain ⟨t175_91, hx158, h⟩ := h
        refine y_v (s := Instr.loadAt 23 (.pointer (some ((⟨w_42.heap.size, 0, none⟩ : Addr).add 2)))) rfl rfl rfl (by kernel_rfl) (rn_load (by kernel_rfl) hx158) ?_
        refine y_k (.pointer (some ((⟨w_42.heap.size, 0, none⟩ : Addr).add 3)) : Value) w_88 rfl rfl rfl (by kernel_rfl) ?_
        obtain ⟨t177_92, hx160, h⟩ := h
        refine y_v (s := Instr.loadAt 23 (.pointer (some ((⟨w_42.heap.size, 0, none⟩ : Addr).add 3)))) rfl rfl rfl (by kernel_rfl) (rn_load (by kernel_rfl) hx160) ?_
        refine y_k (.int .u32 (IntKind.u32.wrap ((IntKind.u32.wrap ((IntKind.u32.wrap ((IntKind.u32.wrap (t103_56 + (ibits .xor .u32 (ibits .xor .u32 t106_67 t109_69) t113_71))) + (ibits .xor .u32 (ibits .and .u32 t117_60 t119_61) (ibits .and .u32 (ibits .xor .u32 4294967295 t122_62) t125_63)))) + t132_65)) + t136_66)) : Value) w_88 rfl rfl rfl (by kernel_rfl) ?_
        refine y_k (.int .u32 (IntKind.u32.wrap (t177_92 + (IntKind.u32.wrap ((IntKind.u32.wrap ((IntKind.u32.wrap ((IntKind.u32.wrap (t103_56 + (ibits .xor .u32 (ibits .xor .u32 t106_67 t109_69) t113_71))) + (ibits .xor .u32 (ibits .and .u32 t117_60 t119_61) (ibits .and .u32 (ibits .xor .u32 4294967295 t122_62) t125_63)))) + t132_65)) + t136_66)))) : Value) w_88 rfl rfl rfl (by kernel_rfl) ?_
        refine y_k (.pointer (some ((⟨w_42.heap.size, 0, none⟩ : Addr).add 4)) : Value) w_88 rfl rfl rfl (by kernel_rfl) ?_
        obtain ⟨t181_93, hx162, h⟩ := h
        refine y_v (s := Instr.loadAt 23 (.pointer (some ((⟨w_42.heap.size, 0, none⟩ : Addr).add 4)))) rfl rfl rfl (by kernel_rfl) (rn_load (by kernel_rfl) hx162) ?_
        refine y_k (.pointer (some ((⟨w_42.heap.size, 0, none⟩ : Addr).add 5)) : Value) w_88 rfl rfl rfl (by kernel_rfl) ?_
        obtain ⟨t183_94, hx164, h⟩ := h
        refine y_v (s := Instr.loadAt 23 (.pointer (some ((⟨w_42.heap.size, 0, none⟩ : Addr).add 5)))) rfl rfl rfl (by kernel_rfl) (rn_load (by kernel_rfl) hx164) ?_
        refine y_k (.pointer (some ((⟨w_42.heap.size, 0, none⟩ : Addr).add 6)) : Value) w_88 rfl rfl rfl (by kernel_rfl) ?_
        obtain ⟨t185_95, hx166, h⟩ := h
        refine y_v (s := Instr.loadAt 23 (.pointer (some ((⟨w_42.heap.size, 0, none⟩ : Addr).add 6)))) rfl rfl rfl (by kernel_rfl) (rn_load (by kernel_rfl) hx166) ?_
        refine y_k (.agg #[.int .u32 (IntKind.u32.wrap ((IntKind.u32.wrap ((IntKind.u32.wrap ((IntKind.u32.wrap ((IntKind.u32.wrap (t103_56 + (ibits .xor .u32 (ibits .xor .u32 t106_67 t109_69) t113_71))) + (ibits .xor .u32 (ibits .and .u32 t117_60 t119_61) (ibits .and .u32 (ibits .xor .u32 4294967295 t122_62) t125_63)))) + t132_65)) + t136_66)) + (IntKind.u32.wrap ((ibits .xor .u32 (ibits .xor .u32 t140_83 t143_85) t147_87) + (ibits .xor .u32 (ibits .xor .u32 (ibits .and .u32 t150_77 t152_78) (ibits .and .u32 t155_79 t157_80)) (ibits .and .u32 t161_81 t163_82)))))), .int .u32 t171_89, .int .u32 t173_90, .int .u32 t175_91, .int .u32 (IntKind.u32.wrap (t177_92 + (IntKind.u32.wrap ((IntKind.u32.wrap ((IntKind.u32.wrap ((IntKind.u32.wrap (t103_56 + (ibits .xor .u32 (ibits .xor .u32 t106_67 t109_69) t113_71))) + (ibits .xor .u32 (ibits .and .u32 t117_60 t119_61) (ibits .and .u32 (ibits .xor .u32 4294967295 t122_62) t125_63)))) + t132_65)) + t136_66)))), .int .u32 t181_93, .int .u32 t183_94, .int .u32 t185_95] : Value) w_88 rfl rfl rfl (by kernel_rfl) ?_
        obtain ⟨hx167, h⟩ := h
        replace h := h _ rfl
        refine y_u (s := Instr.storeAt 94 (.pointer (some (⟨w_42.heap.size, 0, none⟩ : Addr))) (.agg #[.int .u32 (IntKind.u32.wrap ((IntKind.u32.wrap ((IntKind.u32.wrap ((IntKind.u32.wrap ((IntKind.u32.wrap (t103_56 + (ibits .xor .u32 (ibits .xor .u32 t106_67 t109_69) t113_71))) + (ibits .xor .u32 (ibits .and .u32 t117_60 t119_61) (ibits .and .u32 (ibits .xor .u32 4294967295 t122_62) t125_63)))) + t132_65)) + t136_66)) + (IntKind.u32.wrap ((ibits .xor .u32 (ibits .xor .u32 t140_83 t143_85) t147_87) + (ibits .xor .u32 (ibits .xor .u32 (ibits .and .u32 t150_77 t152_78) (ibits .and .u32 t155_79 t157_80)) (ibits .and .u32 t161_81 t163_82)))))), .int .u32 t171_89, .int .u32 t173_90, .int .u32 t175_91, .int .u32 (IntKind.u32.wrap (t177_92 + (IntKind.u32.wrap ((IntKind.u32.wrap ((IntKind.u32.wrap ((IntKind.u32.wrap (t103_56 + (ibits .xor .u32 (ibits .xor .u32 t106_67 t109_69) t113_71))) + (ibits .xor .u32 (ibits .and .u32 t117_60 t119_61) (ibits .and .u32 (ibits .xor .u32 4294967295 t122_62) t125_63)))) + t132_65)) + t136_66)))), .int .u32 t181_93, .int .u32 t183_94, .int .u32 t185_95] : Value)) rfl rfl (by kernel_rfl) (rn_storecells (k := 8) (cs := [.int .u32 (IntKind.u32.wrap ((IntKind.u32.wrap ((IntKind.u32.wrap ((IntKind.u32.wrap ((IntKind.u32.wrap (t103_56 + (ibits .xor .u32 (ibits .xor .u32 t106_67 t109_69) t113_71))) + (ibits .xor .u32 (ibits .and .u32 t117_60 t119_61) (ibits .and .u32 (ibits .xor .u32 4294967295 t122_62) t125_63)))) + t132_65)) + t136_66)) + (IntKind.u32.wrap ((ibits .xor .u32 (ibits .xor .u32 t140_83 t143_85) t147_87) + (ibits .xor .u32 (ibits .xor .u32 (ibits .and .u32 t150_77 t152_78) (ibits .and .u32 t155_79 t157_80)) (ibits .and .u32 t161_81 t163_82)))))), .int .u32 t171_89, .int .u32 t173_90, .int .u32 t175_91, .int .u32 (IntKind.u32.wrap (t177_92 + (IntKind.u32.wrap ((IntKind.u32.wrap ((IntKind.u32.wrap ((IntKind.u32.wrap (t103_56 + (ibits .xor .u32 (ibits .xor .u32 t106_67 t109_69) t113_71))) + (ibits .xor .u32 (ibits .and .u32 t117_60 t119_61) (ibits .and .u32 (ibits .xor .u32 4294967295 t122_62) t125_63)))) + t132_65)) + t136_66)))), .int .u32 t181_93, .int .u32 t183_94, .int .u32 t185_95]) (by kernel_rfl) rfl (by simp [Value.oneCell']) hx167) ?_
        generalize setCells w_88 (⟨w_42.heap.size, 0, none⟩ : Addr) 0 [.int .u32 (IntKind.u32.wrap ((IntKind.u32.wrap ((IntKind.u32.wrap ((IntKind.u32.wrap ((IntKind.u32.wrap (t103_56 + (ibits .xor .u32 (ibits .xor .u32 t106_67 t109_69) t113_71))) + (ibits .xor .u32 (ibits .and .u32 t117_60 t119_61) (ibits .and .u32 (ibits .xor .u32 4294967295 t122_62) t125_63)))) + t132_65)) + t136_66)) + (IntKind.u32.wrap ((ibits .xor .u32 (ibits .xor .u32 t140_83 t143_85) t147_87) + (ibits .xor .u32 (ibits .xor .u32 (ibits .and .u32 t150_77 t152_78) (ibits .and .u32 t155_79 t157_80)) (ibits .and .u32 t161_81 t163_82)))))), .int .u32 t171_89, .int .u32 t173_90, .int .u32 t175_91, .int .u32 (IntKind.u32.wrap (t177_92 + (IntKind.u32.wrap ((IntKind.u32.wrap ((IntKind.u32.wrap ((IntKind.u32.wrap (t103_56 + (ibits .xor .u32 (ibits .xor .u32 t106_67 t109_69) t113_71))) + (ibits .xor .u32 (ibits .and .u32 t117_60 t119_61) (ibits .and .u32 (ibits .xor .u32 4294967295 t122_62) t125_63)))) + t132_65)) + t136_66)))), .int .u32 t181_93, .int .u32 t183_94, .int .u32 t185_95] = w_96 at h ⊢
        refine y_nil ?_
        refine e_block_n ?_
        refine y_then (hK64 _ _ ?_)
        refine y_region ?_
        refine y_k (.int .i64 i12_53 : Value) w_96 rfl rfl rfl (by kernel_rfl) ?_
        refine y_k (.int .i64 (IntKind.i64.wrap (i12_53 + 1)) : Value) w_96 rfl rfl rfl (by kernel_rfl) ?_
        refine y_k (.int .i64 (IntKind.i64.wrap (i12_53 + 1)) : Value) w_96 rfl rfl rfl (by kernel_rfl) ?_
        refine y_nil ?_
        refine y_then (hN61 (IntKind.i64.wrap (i12_53 + 1)) _ _ h ?_)
        dsimp only
        refine upd_id ?_ rfl
        refine upd_id ?_ rfl
        refine upd_id ?_ rfl
        refine upd_id ?_ rfl
        refine upd_id ?_ rfl
        refine upd_id ?_ rfl
        rfl
      · replace h := h.2 (of_decide_eq_false hb189)
        refine y_exit ?_
        repeat (first | refine e_then_x ?_ | refine e_block_y rfl ?_)
        refine e_block_x ?_
        refine y_then (hK57 _ _ ?_)
        refine y_seq fun K168 hK168 => ?_
        refine y_seq fun K169 hK169 => ?_
        refine y_region ?_
        refine y_k (.int .i64 0 : Value) w_54 rfl rfl rfl (by kernel_rfl) ?_
        refine y_nil ?_
        refine y_then (hK169 _ _ ?_)
        refine y_block ?_
        refine y_loop (S := Int) (fun s j => match s with | (i15_97) => upd (upd (upd (upd (j) 2 (.pointer (some (⟨w.heap.size, 0, none⟩ : Addr)) : Value)) 4 (.pointer (some (⟨w_10.heap.size, 0, none⟩ : Addr)) : Value)) 11 (.pointer (some (⟨w_42.heap.size, 0, none⟩ : Addr)) : Value)) 15 (.int .i64 i15_97 : Value)) (0) ?_ h ?_
        · dsimp only
          refine upd_id ?_ rfl
          refine upd_id ?_ rfl
          refine upd_id ?_ rfl
          refine upd_id ?_ rfl
          rfl
        rintro KN172 next171 hN172 i15_97 j w_98 h
        unfold F77_l4 at h
        refine y_seq fun K173 hK173 => ?_
        refine y_seq fun K174 hK174 => ?_
        refine y_region ?_
        refine y_k (.int .i64 i15_97 : Value) w_98 rfl rfl rfl (by kernel_rfl) ?_
        refine y_k (.bool (decide (i15_97 < 8)) : Value) w_98 rfl rfl rfl (by kernel_rfl) ?_
        refine y_nil ?_
        refine y_then (hK174 _ _ ?_)
        refine y_cond (decide (i15_97 < 8)) rfl rfl (fun hb188 => ?_) (fun hb188 => ?_)
        · replace h := h.1 (of_decide_eq_true hb188)
          refine y_skip ?_
          refine y_then (hK173 _ _ ?_)
          refine y_seq fun K175 hK175 => ?_
          refine y_block ?_
          obtain ⟨w_99, hwd177⟩ : ∃ wd : World, wd = w_98.drew := ⟨_, rfl⟩
          replace h := h _ hwd177
          refine t_region (wd := w_99) [] (by kernel_rfl) hwd177 SF_nil fun Q177 hE177 hp177 hS => ?_
          clear hwd177
          refine t_kw hp177 hS 0 (.int .i64 i15_97 : Value) rfl (wanted_none rfl) rfl rfl (by kernel_rfl) (fun _ _ => by kernel_rfl) fun hS => ?_
          refine t_kw hp177 hS 1 (.int .i64 i15_97 : Value) rfl (wanted_none rfl) rfl rfl (by kernel_rfl) (fun _ _ => by kernel_rfl) fun hS => ?_
          obtain ⟨hx178a, hx178b, h⟩ := h
          refine t_v (s := Instr.indexAt 94 (.pointer (some (⟨w.heap.size, 0, none⟩ : Addr)) : Value) (.int .i64 i15_97 : Value)) hp177 hS 2 (.pointer (some ((⟨w.heap.size, 0, none⟩ : Addr).add (Int.toNat i15_97))) : Value) rfl (wanted_none rfl) rfl rfl (by kernel_rfl) (by kernel_rfl) (fun _ _ => run_ixa1 (el := 23) (by kernel_rfl) (by kernel_rfl) hx178a hx178b) fun hS => ?_
          obtain ⟨t194_100, hx179, h⟩ := h
          refine t_add ⟨3, [9], fun wx => wx.cell? ((⟨w.heap.size, 0, none⟩ : Addr).add (Int.toNat i15_97)) = some (.int .u32 t194_100)⟩ ?_
          replace hS := SF_on (x := ⟨3, [9], fun wx => wx.cell? ((⟨w.heap.size, 0, none⟩ : Addr).add (Int.toNat i15_97)) = some (.int .u32 t194_100)⟩) hx179 hS
          refine t_v (s := Instr.loadAt 23 (.pointer (some ((⟨w.heap.size, 0, none⟩ : Addr).add (Int.toNat i15_97))))) hp177 hS 3 (.int .u32 t194_100 : Value) rfl (wanted_none rfl) rfl rfl (by kernel_rfl) (by kernel_rfl) (fun _ hw => rn_load (by kernel_rfl) (Sw.fact (List.Mem.head _) rfl hw)) fun hS => ?_
          refine t_kw hp177 hS 4 (.int .i64 i15_97 : Value) rfl (wanted_none rfl) rfl rfl (by kernel_rfl) (fun _ _ => by kernel_rfl) fun hS => ?_
          obtain ⟨hx180a, hx180b, h⟩ := h
          refine t_v (s := Instr.indexAt 94 (.pointer (some (⟨w_42.heap.size, 0, none⟩ : Addr)) : Value) (.int .i64 i15_97 : Value)) hp177 hS 5 (.pointer (some ((⟨w_42.heap.size, 0, none⟩ : Addr).add (Int.toNat i15_97))) : Value) rfl (wanted_none rfl) rfl rfl (by kernel_rfl) (by kernel_rfl) (fun _ _ => run_ixa1 (el := 23) (by kernel_rfl) (by kernel_rfl) hx180a hx180b) fun hS => ?_
          obtain ⟨t197_101, hx181, h⟩ := h
          refine t_add ⟨6, [9], fun wx => wx.cell? ((⟨w_42.heap.size, 0, none⟩ : Addr).add (Int.toNat i15_97)) = some (.int .u32 t197_101)⟩ ?_
          replace hS := SF_on (x := ⟨6, [9], fun wx => wx.cell? ((⟨w_42.heap.size, 0, none⟩ : Addr).add (Int.toNat i15_97)) = some (.int .u32 t197_101)⟩) hx181 hS
          refine t_v (s := Instr.loadAt 23 (.pointer (some ((⟨w_42.heap.size, 0, none⟩ : Addr).add (Int.toNat i15_97))))) hp177 hS 6 (.int .u32 t197_101 : Value) rfl (wanted_none rfl) rfl rfl (by kernel_rfl) (by kernel_rfl) (fun _ hw => rn_load (by kernel_rfl) (Sw.fact (List.Mem.head _) rfl hw)) fun hS => ?_
          refine t_kw hp177 hS 7 (.int .u32 (IntKind.u32.wrap (t194_100 + t197_101)) : Value) rfl (wanted_none rfl) rfl rfl (by kernel_rfl) (fun _ _ => by kernel_rfl) fun hS => ?_
          obtain ⟨hx182a, hx182b, h⟩ := h
          refine t_v (s := Instr.indexAt 94 (.pointer (some (⟨w.heap.size, 0, none⟩ : Addr)) : Value) (.int .i64 i15_97 : Value)) hp177 hS 8 (.pointer (some ((⟨w.heap.size, 0, none⟩ : Addr).add (Int.toNat i15_97))) : Value) rfl (wanted_none rfl) rfl rfl (by kernel_rfl) (by kernel_rfl) (fun _ _ => run_ixa1 (el := 23) (by kernel_rfl) (by kernel_rfl) hx182a hx182b) fun hS => ?_
          obtain ⟨hx183, h⟩ := h
          replace h := h _ rfl
          refine t_u 9 (s := Instr.storeAt 23 (.pointer (some ((⟨w.heap.size, 0, none⟩ : Addr).add (Int.toNat i15_97)))) (.int .u32 (IntKind.u32.wrap (t194_100 + t197_101)) : Value)) (by kernel_rfl) rfl (wanted_none rfl) rfl (by kernel_rfl) (rn_store1 (by kernel_rfl) rfl hx183) (SF_off (by kernel_rfl) (by kernel_rfl) (SF_off (by kernel_rfl) (by kernel_rfl) SF_nil)) fun hS => ?_
          generalize w_99.setCell ((⟨w.heap.size, 0, none⟩ : Addr).add (Int.toNat i15_97)) (.int .u32 (IntKind.u32.wrap (t194_100 + t197_101)) : Value) = w_102 at hS h ⊢
          refine t_done (by kernel_rfl) (hE177 _ _ ?_)
          refine e_block_n ?_
          refine y_then (hK175 _ _ ?_)
          refine y_region ?_
          refine y_k (.int .i64 i15_97 : Value) w_102 rfl rfl rfl (by kernel_rfl) ?_
          refine y_k (.int .i64 (IntKind.i64.wrap (i15_97 + 1)) : Value) w_102 rfl rfl rfl (by kernel_rfl) ?_
          refine y_k (.int .i64 (IntKind.i64.wrap (i15_97 + 1)) : Value) w_102 rfl rfl rfl (by kernel_rfl) ?_
          refine y_nil ?_
          refine y_then (hN172 (IntKind.i64.wrap (i15_97 + 1)) _ _ h ?_)
          dsimp only
          refine upd_id ?_ rfl
          refine upd_id ?_ rfl
          refine upd_id ?_ rfl
          refine upd_id ?_ rfl
          rfl
        · replace h := h.2 (of_decide_eq_false hb188)
          refine y_exit ?_
          repeat (first | refine e_then_x ?_ | refine e_block_y rfl ?_)
          refine e_block_x ?_
          refine y_then (hK168 _ _ ?_)
          refine y_seq fun K184 hK184 => ?_
          refine y_region ?_
          obtain ⟨t200_103, t200_104, t200_105, t200_106, t200_107, t200_108, t200_109, t200_110, hx185, h⟩ := h
          refine y_v (s := Instr.loadAt 94 (.pointer (some (⟨w.heap.size, 0, none⟩ : Addr)))) rfl rfl rfl (by kernel_rfl) (rn_loadcells (k := 8) ⟨by kernel_rfl, by kernel_rfl⟩ rfl hx185) ?_
          obtain ⟨hx186, h⟩ := h
          replace h := h _ rfl
          refine y_u (s := Instr.storeAt 94 (.pointer (some (⟨w_10.heap.size, 0, none⟩ : Addr))) (.agg #[.int .u32 t200_103, .int .u32 t200_104, .int .u32 t200_105, .int .u32 t200_106, .int .u32 t200_107, .int .u32 t200_108, .int .u32 t200_109, .int .u32 t200_110] : Value)) rfl rfl (by kernel_rfl) (rn_storecells (k := 8) (cs := [.int .u32 t200_103, .int .u32 t200_104, .int .u32 t200_105, .int .u32 t200_106, .int .u32 t200_107, .int .u32 t200_108, .int .u32 t200_109, .int .u32 t200_110]) (by kernel_rfl) rfl (by simp [Value.oneCell']) hx186) ?_
          generalize setCells w_98 (⟨w_10.heap.size, 0, none⟩ : Addr) 0 [.int .u32 t200_103, .int .u32 t200_104, .int .u32 t200_105, .int .u32 t200_106, .int .u32 t200_107, .int .u32 t200_108, .int .u32 t200_109, .int .u32 t200_110] = w_111 at h ⊢
          refine y_nil ?_
          refine y_then (hK184 _ _ ?_)
          refine y_ret ?_
          repeat (first | refine e_then_r ?_ | refine e_block_r ?_)
          obtain ⟨r0_112, r0_113, r0_114, r0_115, r0_116, r0_117, r0_118, r0_119, hx187, h⟩ := h
          exact (hQ0 _ _ _ (rs1 rfl (rs_cell (v := (.agg #[.int .u32 r0_112, .int .u32 r0_113, .int .u32 r0_114, .int .u32 r0_115, .int .u32 r0_116, .int .u32 r0_117, .int .u32 r0_118, .int .u32 r0_119] : Value)) (ad := (⟨w_10.heap.size, 0, none⟩ : Addr)) rfl rfl (rn_loadcells (k := 8) ⟨by kernel_rfl, by kernel_rfl⟩ rfl hx187))) ⟨_, _, _, _, _, _, _, _, rfl, h⟩).1

/-- turnkey/turnkeyref02.numbers -/
def F96  (K : Sl → World → Prop) (w : World) : Prop :=
  ∀ (w_1 : World), w_1 = w.alloc (.cells #[.int .u32 1116352408, .int .u32 1899447441, .int .u32 3049323471, .int .u32 3921009573, .int .u32 961987163, .int .u32 1508970993, .int .u32 2453635748, .int .u32 2870763221, .int .u32 3624381080, .int .u32 310598401, .int .u32 607225278, .int .u32 1426881987, .int .u32 1925078388, .int .u32 2162078206, .int .u32 2614888103, .int .u32 3248222580, .int .u32 3835390401, .int .u32 4022224774, .int .u32 264347078, .int .u32 604807628, .int .u32 770255983, .int .u32 1249150122, .int .u32 1555081692, .int .u32 1996064986, .int .u32 2554220882, .int .u32 2821834349, .int .u32 2952996808, .int .u32 3210313671, .int .u32 3336571891, .int .u32 3584528711, .int .u32 113926993, .int .u32 338241895, .int .u32 666307205, .int .u32 773529912, .int .u32 1294757372, .int .u32 1396182291, .int .u32 1695183700, .int .u32 1986661051, .int .u32 2177026350, .int .u32 2456956037, .int .u32 2730485921, .int .u32 2820302411, .int .u32 3259730800, .int .u32 3345764771, .int .u32 3516065817, .int .u32 3600352804, .int .u32 4094571909, .int .u32 275423344, .int .u32 430227734, .int .u32 506948616, .int .u32 659060556, .int .u32 883997877, .int .u32 958139571, .int .u32 1322822218, .int .u32 1537002063, .int .u32 1747873779, .int .u32 1955562222, .int .u32 2024104815, .int .u32 2227730452, .int .u32 2361852424, .int .u32 2428436474, .int .u32 2756734187, .int .u32 3204031479, .int .u32 3329325298] 23) →
  K (⟨some ⟨w.heap.size, 0, none⟩, 64, 64⟩) w_1
set_option maxHeartbeats 4000000 in
set_option maxRecDepth 20000 in
theorem F96_sound  (K : Sl → World → Prop) (w : World) (h : F96  K w) :
    Calls Try.prog 96 #[] w (fun e w1 => ∃ (r0 : Sl), e = .returned (.slice r0.a r0.n r0.c : Value) ∧ K r0 w1) := by
  unfold F96 at h
  refine y_enter (n := 2) (args := []) Try.func96 rfl rfl rfl fun Q0 hQ0 => ?_
  refine y_seq fun K1 hK1 => ?_
  refine y_region ?_
  refine y_k (.slice none 0 0 : Value) w rfl rfl rfl (by kernel_rfl) ?_
  refine y_nil ?_
  refine y_then (hK1 _ _ ?_)
  refine y_seq fun K2 hK2 => ?_
  refine y_region ?_
  refine y_k (.slice (some ⟨w.heap.size, 0, none⟩) 64 64 : Value) (w.alloc (.cells #[.int .u32 1116352408, .int .u32 1899447441, .int .u32 3049323471, .int .u32 3921009573, .int .u32 961987163, .int .u32 1508970993, .int .u32 2453635748, .int .u32 2870763221, .int .u32 3624381080, .int .u32 310598401, .int .u32 607225278, .int .u32 1426881987, .int .u32 1925078388, .int .u32 2162078206, .int .u32 2614888103, .int .u32 3248222580, .int .u32 3835390401, .int .u32 4022224774, .int .u32 264347078, .int .u32 604807628, .int .u32 770255983, .int .u32 1249150122, .int .u32 1555081692, .int .u32 1996064986, .int .u32 2554220882, .int .u32 2821834349, .int .u32 2952996808, .int .u32 3210313671, .int .u32 3336571891, .int .u32 3584528711, .int .u32 113926993, .int .u32 338241895, .int .u32 666307205, .int .u32 773529912, .int .u32 1294757372, .int .u32 1396182291, .int .u32 1695183700, .int .u32 1986661051, .int .u32 2177026350, .int .u32 2456956037, .int .u32 2730485921, .int .u32 2820302411, .int .u32 3259730800, .int .u32 3345764771, .int .u32 3516065817, .int .u32 3600352804, .int .u32 4094571909, .int .u32 275423344, .int .u32 430227734, .int .u32 506948616, .int .u32 659060556, .int .u32 883997877, .int .u32 958139571, .int .u32 1322822218, .int .u32 1537002063, .int .u32 1747873779, .int .u32 1955562222, .int .u32 2024104815, .int .u32 2227730452, .int .u32 2361852424, .int .u32 2428436474, .int .u32 2756734187, .int .u32 3204031479, .int .u32 3329325298] 23)) rfl rfl rfl (by kernel_rfl) ?_
  replace h := h _ rfl
  generalize w.alloc (.cells #[.int .u32 1116352408, .int .u32 1899447441, .int .u32 3049323471, .int .u32 3921009573, .int .u32 961987163, .int .u32 1508970993, .int .u32 2453635748, .int .u32 2870763221, .int .u32 3624381080, .int .u32 310598401, .int .u32 607225278, .int .u32 1426881987, .int .u32 1925078388, .int .u32 2162078206, .int .u32 2614888103, .int .u32 3248222580, .int .u32 3835390401, .int .u32 4022224774, .int .u32 264347078, .int .u32 604807628, .int .u32 770255983, .int .u32 1249150122, .int .u32 1555081692, .int .u32 1996064986, .int .u32 2554220882, .int .u32 2821834349, .int .u32 2952996808, .int .u32 3210313671, .int .u32 3336571891, .int .u32 3584528711, .int .u32 113926993, .int .u32 338241895, .int .u32 666307205, .int .u32 773529912, .int .u32 1294757372, .int .u32 1396182291, .int .u32 1695183700, .int .u32 1986661051, .int .u32 2177026350, .int .u32 2456956037, .int .u32 2730485921, .int .u32 2820302411, .int .u32 3259730800, .int .u32 3345764771, .int .u32 3516065817, .int .u32 3600352804, .int .u32 4094571909, .int .u32 275423344, .int .u32 430227734, .int .u32 506948616, .int .u32 659060556, .int .u32 883997877, .int .u32 958139571, .int .u32 1322822218, .int .u32 1537002063, .int .u32 1747873779, .int .u32 1955562222, .int .u32 2024104815, .int .u32 2227730452, .int .u32 2361852424, .int .u32 2428436474, .int .u32 2756734187, .int .u32 3204031479, .int .u32 3329325298] 23) = w_1 at h ⊢
  refine y_k (.slice (some ⟨w.heap.size, 0, none⟩) 64 64 : Value) w_1 rfl rfl rfl (by kernel_rfl) ?_
  refine y_nil ?_
  refine y_then (hK2 _ _ ?_)
  refine y_ret ?_
  repeat (first | refine e_then_r ?_ | refine e_block_r ?_)
  exact (hQ0 _ _ _ (res1 (v := (.slice (some ⟨w.heap.size, 0, none⟩) 64 64 : Value)) rfl rfl rfl) ⟨_, rfl, h⟩).1

end Go.Proofs.Ytjgijifankaglaa
