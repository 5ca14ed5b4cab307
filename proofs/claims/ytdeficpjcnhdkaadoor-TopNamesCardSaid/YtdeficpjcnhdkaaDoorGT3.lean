/- Printed by gen.py (own program, wip/): for each Go function a predicate transformer and its soundness. -/
import Derived.Test.YtdeficpjcnhdkaaDoorProg
import Derived.Test.YtdeficpjcnhdkaaDoorST
namespace Go.Proofs.YtdeficpjcnhdkaaDoor
open Go Go.RowKit Go.Proofs.YtdeficpjcnhdkaaDoor.SX
set_option linter.unusedVariables false

def F3_j2 (K : Bool → World → Prop) (t0_62 : Bool) (w_63 : World) : Prop :=
  K t0_62 w_63
def F3_j1 (K : Bool → World → Prop) (w : World) (t16_2 : Value) (t21_5 : Int) (all12_54 : Bool) (w_55 : World) : Prop :=
  ∃ (t101_56 : Bool), (do eqGuard .eql 27 (Operand.tmp 99) (Operand.tmp 100) t16_2 (Value.iface 23 (.int .i64 90)); binOp .eql 27 t16_2 (Value.iface 23 (.int .i64 90))).run Tryd.prog w_55 = .ok (.bool t101_56 : Value) w_55 ∧
  ((t101_56 = true →
  Calls Tryd.prog 7 #[.pointer (some (⟨w.heap.size, 0, none⟩ : Addr))] w_55 fun e w_58 => ∃ (t104_57 : ByteArray), e = .returned (.string t104_57 : Value) ∧
  ((¬ t104_57.toList = (((ByteArray.mk #[])).toList) →
  Calls Tryd.prog 8 #[.int .i64 1] w_58 fun e w_60 => ∃ (t108_59 : ByteArray), e = .returned (.string t108_59 : Value) ∧
  ((¬ t108_59.toList = (((ByteArray.mk #[])).toList) →
  ((t21_5 = 90 →
  ∃ (t119_61 : Int), w_60.cell? (⟨w.heap.size, 0, none⟩ : Addr) = some (.int .i64 t119_61) ∧
  ((t119_61 = 7 →
  F3_j2 K all12_54 w_60) ∧
  (¬ t119_61 = 7 →
  F3_j2 K false w_60))) ∧
  (¬ t21_5 = 90 →
  F3_j2 K false w_60))) ∧
  (t108_59.toList = (((ByteArray.mk #[])).toList) →
  F3_j2 K false w_60))) ∧
  (t104_57.toList = (((ByteArray.mk #[])).toList) →
  F3_j2 K false w_58))) ∧
  (t101_56 = false →
  F3_j2 K false w_55))
/-- turnkey/turnkeytop.TopNames -/
def F3  (K : Bool → World → Prop) (w : World) : Prop :=
  ∀ (w_1 : World), w_1 = w.alloc (.cells #[.int .i64 7, .int .i64 90] 25) →
  Calls Tryd.prog 5 #[.pointer (some (⟨w.heap.size, 0, none⟩ : Addr))] w_1 fun e w_3 => ∃ (t16_2 : Value), e = .returned t16_2 ∧
  ∃ (t20_4 : Int), w_3.cell? ((⟨w.heap.size, 0, none⟩ : Addr).add 1) = some (.int .i64 t20_4) ∧
  Calls Tryd.prog 6 #[.int .i64 t20_4] w_3 fun e w_6 => ∃ (t21_5 : Int), e = .returned (.int .i64 t21_5 : Value) ∧
  ∀ (w_7 : World), w_7 = w_6.alloc (.cells #[.string ((ByteArray.mk #[97])), .string ((ByteArray.mk #[98]))] 31) →
  ∀ (w_8 : World), w_8 = w_7.alloc (.cells #[.string ((ByteArray.mk #[97])), .int .i64 1, .string ((ByteArray.mk #[98]))] 34) →
  ∀ (w_9 : World), w_9 = w_8.alloc (.cells #[.int .i64 ((-1)), .int .u64 1] 38) →
  ∀ (w_10 : World), w_10 = w_9.alloc (.cells #[.slice none 0 0, .slice none 0 0] 41) →
  HasCells w_10 (⟨w_9.heap.size, 0, none⟩ : Addr) 0 2 ∧ ∀ (w_11 : World), w_11 = setCells w_10 (⟨w_9.heap.size, 0, none⟩ : Addr) 0 [.slice (some ⟨w_6.heap.size, 0, none⟩) 1 1, .slice (some ⟨w_8.heap.size, 0, none⟩) 1 1] →
  ∃ (t30_12 : Value), (Instr.build 42 #[(0, .int .u8 1)]).run Tryd.prog w_11 = .ok t30_12 w_11 ∧
  ∃ (t32_13 : Value), (Instr.build 44 #[(0, t30_12), (1, .int .i64 2), (2, .slice (some ⟨w_7.heap.size, 0, none⟩) 1 1)]).run Tryd.prog w_11 = .ok t32_13 w_11 ∧
  ∀ (w_14 : World), w_14 = w_11.alloc (.cells #[.int .u8 0, .int .u8 0, .int .u8 0, .int .u8 0, .int .u8 0, .int .u8 0, .int .u8 0, .int .u8 0, .int .u8 0, .int .u8 0, .int .u8 0, .int .u8 0, .int .u8 0, .int .u8 0, .int .u8 0, .int .u8 0, .int .u8 0, .int .u8 0, .int .u8 0, .int .u8 0, .int .u8 0, .int .u8 0, .int .u8 0, .int .u8 0, .int .u8 0, .int .u8 0, .int .u8 0, .int .u8 0, .int .u8 0, .int .u8 0, .int .u8 0, .int .u8 0, .int .i64 0, .slice none 0 0] 44) →
  ∃ (w_15 : World), (Instr.storeAt 44 (.pointer (some (⟨w_11.heap.size, 0, none⟩ : Addr))) t32_13).run Tryd.prog w_14 = .ok () w_15 ∧
  ∃ (t33_16 : Value), (Instr.loadAt 44 (.pointer (some (⟨w_11.heap.size, 0, none⟩ : Addr)))).run Tryd.prog w_15 = .ok t33_16 w_15 ∧
  ∃ (t34_17 : Value), (Instr.build 42 #[(0, .int .u8 4)]).run Tryd.prog w_15 = .ok t34_17 w_15 ∧
  ∃ (t35_18 : Sl), ∃ (t35_19 : Sl), CellsAt w_15 (⟨w_9.heap.size, 0, none⟩ : Addr) 0 [.slice t35_18.a t35_18.n t35_18.c, .slice t35_19.a t35_19.n t35_19.c] ∧
  ∀ (w_20 : World), w_20 = w_15.alloc (.cells #[.slice t35_18.a t35_18.n t35_18.c, .slice t35_19.a t35_19.n t35_19.c] 41) →
  ∃ (t37_21 : Value), (Instr.build 47 #[(0, .int .i64 1), (1, .string ((ByteArray.mk #[116]))), (2, .int .i64 2), (3, .int .i64 3), (4, t33_16), (5, t34_17), (6, .int .i64 5), (7, .slice (some ⟨w_15.heap.size, 0, none⟩) 1 1)]).run Tryd.prog w_20 = .ok t37_21 w_20 ∧
  ∀ (w_22 : World), w_22 = w_20.alloc (.cells #[.int .i64 0, .string ByteArray.empty, .int .i64 0, .int .i64 0, .int .u8 0, .int .u8 0, .int .u8 0, .int .u8 0, .int .u8 0, .int .u8 0, .int .u8 0, .int .u8 0, .int .u8 0, .int .u8 0, .int .u8 0, .int .u8 0, .int .u8 0, .int .u8 0, .int .u8 0, .int .u8 0, .int .u8 0, .int .u8 0, .int .u8 0, .int .u8 0, .int .u8 0, .int .u8 0, .int .u8 0, .int .u8 0, .int .u8 0, .int .u8 0, .int .u8 0, .int .u8 0, .int .u8 0, .int .u8 0, .int .u8 0, .int .u8 0, .int .i64 0, .slice none 0 0, .int .u8 0, .int .u8 0, .int .u8 0, .int .u8 0, .int .u8 0, .int .u8 0, .int .u8 0, .int .u8 0, .int .u8 0, .int .u8 0, .int .u8 0, .int .u8 0, .int .u8 0, .int .u8 0, .int .u8 0, .int .u8 0, .int .u8 0, .int .u8 0, .int .u8 0, .int .u8 0, .int .u8 0, .int .u8 0, .int .u8 0, .int .u8 0, .int .u8 0, .int .u8 0, .int .u8 0, .int .u8 0, .int .u8 0, .int .u8 0, .int .u8 0, .int .u8 0, .int .i64 0, .slice none 0 0] 47) →
  ∃ (w_23 : World), (Instr.storeAt 47 (.pointer (some (⟨w_20.heap.size, 0, none⟩ : Addr))) t37_21).run Tryd.prog w_22 = .ok () w_23 ∧
  ∀ (w_24 : World), w_24 = w_23.alloc (.cells #[.int .u8 2] 5) →
  ∃ (t40_25 : Sl), w_24.cell? ((⟨w_20.heap.size, 0, none⟩ : Addr).add 71) = some (.slice t40_25.a t40_25.n t40_25.c) ∧
  ∀ (w_26 : World), w_26 = w_24.alloc (.cells #[.int .u8 8] 5) →
  ∃ (t43_27 : Value), (Instr.build 50 #[(0, .int .i64 1), (1, .string ((ByteArray.mk #[116]))), (2, .slice (some ⟨w_23.heap.size, 0, none⟩) 1 1), (3, .slice t40_25.a t40_25.n t40_25.c), (4, .slice (some ⟨w_7.heap.size, 0, none⟩) 1 1), (5, .int .i64 3), (6, .int .i64 4), (7, .string ((ByteArray.mk #[113]))), (8, .string ((ByteArray.mk #[110]))), (9, .int .i64 5), (10, .int .i64 6), (11, .int .i64 7), (12, .slice (some ⟨w_24.heap.size, 0, none⟩) 1 1)]).run Tryd.prog w_26 = .ok t43_27 w_26 ∧
  ∀ (w_28 : World), w_28 = w_26.alloc (.cells #[.int .i64 0, .string ByteArray.empty, .slice none 0 0, .slice none 0 0, .slice none 0 0, .int .i64 0, .int .i64 0, .string ByteArray.empty, .string ByteArray.empty, .int .i64 0, .int .i64 0, .int .i64 0, .slice none 0 0] 50) →
  ∃ (w_29 : World), (Instr.storeAt 50 (.pointer (some (⟨w_26.heap.size, 0, none⟩ : Addr))) t43_27).run Tryd.prog w_28 = .ok () w_29 ∧
  ∃ (t45_30 : Sl), w_29.cell? ((⟨w_20.heap.size, 0, none⟩ : Addr).add 71) = some (.slice t45_30.a t45_30.n t45_30.c) ∧
  ∀ (w_31 : World), w_31 = w_29.alloc (.cells #[.slice (some ⟨w_6.heap.size, 0, none⟩) 1 1, .int .u64 2] 52) →
  ∀ (w_32 : World), w_32 = w_31.alloc (.cells #[.string ((ByteArray.mk #[120]))] 9) →
  ∀ (w_33 : World), w_33 = w_32.alloc (.cells #[.int .i64 0, .int .i64 0, .slice none 0 0, .slice none 0 0, .int .i64 0, .slice none 0 0] 56) →
  HasCells w_33 (⟨w_32.heap.size, 0, none⟩ : Addr) 0 6 ∧ ∀ (w_34 : World), w_34 = setCells w_33 (⟨w_32.heap.size, 0, none⟩ : Addr) 0 [.int .i64 0, .int .i64 1, .slice t45_30.a t45_30.n t45_30.c, .slice (some ⟨w_29.heap.size, 0, none⟩) 1 1, .int .i64 3, .slice (some ⟨w_31.heap.size, 0, none⟩) 1 1] →
  ∀ (w_35 : World), w_35 = w_34.alloc (.cells #[.int .i64 0, .int .i64 0, .int .i64 0, .int .i64 0, .int .i64 0] 58) →
  HasCells w_35 (⟨w_34.heap.size, 0, none⟩ : Addr) 0 5 ∧ ∀ (w_36 : World), w_36 = setCells w_35 (⟨w_34.heap.size, 0, none⟩ : Addr) 0 [.int .i64 1, .int .i64 2, .int .i64 3, .int .i64 4, .int .i64 5] →
  ∃ (t54_37 : Sl), w_36.cell? (((⟨w_20.heap.size, 0, none⟩ : Addr).add 4).add 33) = some (.slice t54_37.a t54_37.n t54_37.c) ∧
  (0 : Int) ≤ 0 ∧ 0 < (t54_37.n : Int) ∧ ∃ (a_38 : Addr), t54_37.a = some a_38 ∧
  ∃ (t57_39 : ByteArray), w_36.cell? ((a_38.add (Int.toNat 0 * 3)).add 2) = some (.string t57_39) ∧
  ((t57_39.toList = (((ByteArray.mk #[98])).toList) →
  ∃ (t61_40 : Sl), w_36.cell? ((⟨w_26.heap.size, 0, none⟩ : Addr).add 3) = some (.slice t61_40.a t61_40.n t61_40.c) ∧
  (0 : Int) ≤ 0 ∧ 0 < (t61_40.n : Int) ∧ ∃ (a_41 : Addr), t61_40.a = some a_41 ∧
  ∃ (t64_42 : Sl), w_36.cell? ((a_41.add (Int.toNat 0 * 2)).add 1) = some (.slice t64_42.a t64_42.n t64_42.c) ∧
  (0 : Int) ≤ 0 ∧ 0 < (t64_42.n : Int) ∧ ∃ (a_43 : Addr), t64_42.a = some a_43 ∧
  ∃ (t67_44 : Int), w_36.cell? (a_43.add (Int.toNat 0 * 2)) = some (.int .i64 t67_44) ∧
  ((t67_44 = (((-1))) →
  ∃ (t72_45 : Sl), w_36.cell? ((⟨w_32.heap.size, 0, none⟩ : Addr).add 3) = some (.slice t72_45.a t72_45.n t72_45.c) ∧
  (0 : Int) ≤ 0 ∧ 0 < (t72_45.n : Int) ∧ ∃ (a_46 : Addr), t72_45.a = some a_46 ∧
  ∃ (t75_47 : Int), w_36.cell? ((a_46.add (Int.toNat 0 * 2)).add 1) = some (.int .u64 t75_47) ∧
  ((t75_47 = 2 →
  ∃ (t80_48 : Int), w_36.cell? (⟨w_34.heap.size, 0, none⟩ : Addr) = some (.int .i64 t80_48) ∧
  ∃ (t82_49 : Int), w_36.cell? ((⟨w_34.heap.size, 0, none⟩ : Addr).add 1) = some (.int .i64 t82_49) ∧
  ∃ (t85_50 : Int), w_36.cell? ((⟨w_34.heap.size, 0, none⟩ : Addr).add 2) = some (.int .i64 t85_50) ∧
  ∃ (t88_51 : Int), w_36.cell? ((⟨w_34.heap.size, 0, none⟩ : Addr).add 3) = some (.int .i64 t88_51) ∧
  ((((IntKind.i64.wrap ((IntKind.i64.wrap ((IntKind.i64.wrap (t80_48 + t82_49)) + t85_50)) + t88_51))) = 10 →
  ∃ (t94_52 : Int), w_36.cell? ((⟨w_34.heap.size, 0, none⟩ : Addr).add 4) = some (.int .i64 t94_52) ∧
  ∃ (t96_53 : Int), w_36.cell? ((⟨w_20.heap.size, 0, none⟩ : Addr).add 70) = some (.int .i64 t96_53) ∧
  F3_j1 K w t16_2 t21_5 ((t94_52 == t96_53)) w_36) ∧
  (¬ ((IntKind.i64.wrap ((IntKind.i64.wrap ((IntKind.i64.wrap (t80_48 + t82_49)) + t85_50)) + t88_51))) = 10 →
  F3_j1 K w t16_2 t21_5 false w_36))) ∧
  (¬ t75_47 = 2 →
  F3_j1 K w t16_2 t21_5 false w_36))) ∧
  (¬ t67_44 = (((-1))) →
  F3_j1 K w t16_2 t21_5 false w_36))) ∧
  (¬ t57_39.toList = (((ByteArray.mk #[98])).toList) →
  F3_j1 K w t16_2 t21_5 false w_36))
set_option maxHeartbeats 4000000 in
set_option maxRecDepth 20000 in
theorem F3_sound  (K : Bool → World → Prop) (w : World) (h : F3  K w) :
    Calls Tryd.prog 3 #[] w (fun e w1 => ∃ (r0 : Bool), e = .returned (.bool r0 : Value) ∧ K r0 w1) := by
  unfold F3 at h
  refine y_enter (n := 125) (args := []) Tryd.func3 rfl rfl rfl fun Q0 hQ0 => ?_
  refine y_seq fun K1 hK1 => ?_
  refine y_region ?_
  refine y_k (.bool false : Value) w rfl rfl rfl (by kernel_rfl) ?_
  refine y_nil ?_
  refine y_then (hK1 _ _ ?_)
  refine y_seq fun K2 hK2 => ?_
  refine y_cond_f rfl rfl ?_
  refine y_skip ?_
  refine y_then (hK2 _ _ ?_)
  refine y_seq fun K3 hK3 => ?_
  refine y_region ?_
  refine y_k (.agg #[.int .i64 7, .int .i64 90] : Value) w rfl rfl rfl (by kernel_rfl) ?_
  refine y_k (.pointer (some (⟨w.heap.size, 0, none⟩ : Addr)) : Value) (w.alloc (.cells #[.int .i64 7, .int .i64 90] 25)) rfl rfl rfl (by kernel_rfl) ?_
  replace h := h _ rfl
  generalize w.alloc (.cells #[.int .i64 7, .int .i64 90] 25) = w_1 at h ⊢
  refine y_k (.pointer (some (⟨w.heap.size, 0, none⟩ : Addr)) : Value) w_1 rfl rfl rfl (by kernel_rfl) ?_
  refine y_nil ?_
  refine y_then (hK3 _ _ ?_)
  refine y_seq fun K4 hK4 => ?_
  refine y_region ?_
  refine y_k (.pointer (some (⟨w.heap.size, 0, none⟩ : Addr)) : Value) w_1 rfl rfl rfl (by kernel_rfl) ?_
  refine y_call rfl rfl rfl (by kernel_rfl) (h.mono ?_)
  rintro _ w_3 ⟨t16_2, rfl, h⟩
  refine ⟨_, rfl, ?_⟩
  refine y_k t16_2 w_3 rfl rfl rfl (by kernel_rfl) ?_
  refine y_nil ?_
  refine y_then (hK4 _ _ ?_)
  refine y_seq fun K5 hK5 => ?_
  refine y_region ?_
  refine y_k (.pointer (some (⟨w.heap.size, 0, none⟩ : Addr)) : Value) w_3 rfl rfl rfl (by kernel_rfl) ?_
  refine y_k (.pointer (some (⟨w.heap.size, 0, none⟩ : Addr)) : Value) w_3 rfl rfl rfl (by kernel_rfl) ?_
  refine y_k (.pointer (some ((⟨w.heap.size, 0, none⟩ : Addr).add 1)) : Value) w_3 rfl rfl rfl (by kernel_rfl) ?_
  obtain ⟨t20_4, hx6, h⟩ := h
  refine y_v (s := Instr.loadAt 23 (.pointer (some ((⟨w.heap.size, 0, none⟩ : Addr).add 1)))) rfl rfl rfl (by kernel_rfl) (rn_load (by kernel_rfl) hx6) ?_
  refine y_call rfl rfl rfl (by kernel_rfl) (h.mono ?_)
  rintro _ w_6 ⟨t21_5, rfl, h⟩
  refine ⟨_, rfl, ?_⟩
  refine y_k (.int .i64 t21_5 : Value) w_6 rfl rfl rfl (by kernel_rfl) ?_
  refine y_nil ?_
  refine y_then (hK5 _ _ ?_)
  refine y_seq fun K7 hK7 => ?_
  refine y_region ?_
  refine y_k (.agg #[.string ((ByteArray.mk #[97])), .string ((ByteArray.mk #[98]))] : Value) w_6 rfl rfl rfl (by kernel_rfl) ?_
  refine y_k (.slice (some ⟨w_6.heap.size, 0, none⟩) 1 1 : Value) (w_6.alloc (.cells #[.string ((ByteArray.mk #[97])), .string ((ByteArray.mk #[98]))] 31)) rfl rfl rfl (by kernel_rfl) ?_
  replace h := h _ rfl
  generalize w_6.alloc (.cells #[.string ((ByteArray.mk #[97])), .string ((ByteArray.mk #[98]))] 31) = w_7 at h ⊢
  refine y_k (.slice (some ⟨w_6.heap.size, 0, none⟩) 1 1 : Value) w_7 rfl rfl rfl (by kernel_rfl) ?_
  refine y_nil ?_
  refine y_then (hK7 _ _ ?_)
  refine y_seq fun K8 hK8 => ?_
  refine y_region ?_
  refine y_k (.agg #[.string ((ByteArray.mk #[97])), .int .i64 1, .string ((ByteArray.mk #[98]))] : Value) w_7 rfl rfl rfl (by kernel_rfl) ?_
  refine y_k (.slice (some ⟨w_7.heap.size, 0, none⟩) 1 1 : Value) (w_7.alloc (.cells #[.string ((ByteArray.mk #[97])), .int .i64 1, .string ((ByteArray.mk #[98]))] 34)) rfl rfl rfl (by kernel_rfl) ?_
  replace h := h _ rfl
  generalize w_7.alloc (.cells #[.string ((ByteArray.mk #[97])), .int .i64 1, .string ((ByteArray.mk #[98]))] 34) = w_8 at h ⊢
  refine y_k (.slice (some ⟨w_7.heap.size, 0, none⟩) 1 1 : Value) w_8 rfl rfl rfl (by kernel_rfl) ?_
  refine y_nil ?_
  refine y_then (hK8 _ _ ?_)
  refine y_seq fun K9 hK9 => ?_
  refine y_region ?_
  refine y_k (.slice (some ⟨w_6.heap.size, 0, none⟩) 1 1 : Value) w_8 rfl rfl rfl (by kernel_rfl) ?_
  refine y_k (.agg #[.int .i64 ((-1)), .int .u64 1] : Value) w_8 rfl rfl rfl (by kernel_rfl) ?_
  refine y_k (.slice (some ⟨w_8.heap.size, 0, none⟩) 1 1 : Value) (w_8.alloc (.cells #[.int .i64 ((-1)), .int .u64 1] 38)) rfl rfl rfl (by kernel_rfl) ?_
  replace h := h _ rfl
  generalize w_8.alloc (.cells #[.int .i64 ((-1)), .int .u64 1] 38) = w_9 at h ⊢
  refine y_k (.agg #[.slice (some ⟨w_6.heap.size, 0, none⟩) 1 1, .slice (some ⟨w_8.heap.size, 0, none⟩) 1 1] : Value) w_9 rfl rfl rfl (by kernel_rfl) ?_
  refine y_k (.pointer (some (⟨w_9.heap.size, 0, none⟩ : Addr)) : Value) (w_9.alloc (.cells #[.slice none 0 0, .slice none 0 0] 41)) rfl rfl rfl (by kernel_rfl) ?_
  replace h := h _ rfl
  generalize w_9.alloc (.cells #[.slice none 0 0, .slice none 0 0] 41) = w_10 at h ⊢
  obtain ⟨hx10, h⟩ := h
  replace h := h _ rfl
  refine y_u (s := Instr.storeAt 41 (.pointer (some (⟨w_9.heap.size, 0, none⟩ : Addr))) (.agg #[.slice (some ⟨w_6.heap.size, 0, none⟩) 1 1, .slice (some ⟨w_8.heap.size, 0, none⟩) 1 1] : Value)) rfl rfl (by kernel_rfl) (rn_storecells (k := 2) (cs := [.slice (some ⟨w_6.heap.size, 0, none⟩) 1 1, .slice (some ⟨w_8.heap.size, 0, none⟩) 1 1]) (by kernel_rfl) rfl (by simp [Value.oneCell']) hx10) ?_
  generalize setCells w_10 (⟨w_9.heap.size, 0, none⟩ : Addr) 0 [.slice (some ⟨w_6.heap.size, 0, none⟩) 1 1, .slice (some ⟨w_8.heap.size, 0, none⟩) 1 1] = w_11 at h ⊢
  refine y_nil ?_
  refine y_then (hK9 _ _ ?_)
  refine y_seq fun K11 hK11 => ?_
  refine y_region ?_
  obtain ⟨t30_12, hx12, h⟩ := h
  refine y_v (s := Instr.build 42 #[(0, .int .u8 1)]) rfl rfl rfl (by kernel_rfl) (hx12) ?_
  refine y_k (.slice (some ⟨w_7.heap.size, 0, none⟩) 1 1 : Value) w_11 rfl rfl rfl (by kernel_rfl) ?_
  obtain ⟨t32_13, hx13, h⟩ := h
  refine y_v (s := Instr.build 44 #[(0, t30_12), (1, .int .i64 2), (2, .slice (some ⟨w_7.heap.size, 0, none⟩) 1 1)]) rfl rfl rfl (by kernel_rfl) (hx13) ?_
  refine y_k (.pointer (some (⟨w_11.heap.size, 0, none⟩ : Addr)) : Value) (w_11.alloc (.cells #[.int .u8 0, .int .u8 0, .int .u8 0, .int .u8 0, .int .u8 0, .int .u8 0, .int .u8 0, .int .u8 0, .int .u8 0, .int .u8 0, .int .u8 0, .int .u8 0, .int .u8 0, .int .u8 0, .int .u8 0, .int .u8 0, .int .u8 0, .int .u8 0, .int .u8 0, .int .u8 0, .int .u8 0, .int .u8 0, .int .u8 0, .int .u8 0, .int .u8 0, .int .u8 0, .int .u8 0, .int .u8 0, .int .u8 0, .int .u8 0, .int .u8 0, .int .u8 0, .int .i64 0, .slice none 0 0] 44)) rfl rfl rfl (by kernel_rfl) ?_
  replace h := h _ rfl
  generalize w_11.alloc (.cells #[.int .u8 0, .int .u8 0, .int .u8 0, .int .u8 0, .int .u8 0, .int .u8 0, .int .u8 0, .int .u8 0, .int .u8 0, .int .u8 0, .int .u8 0, .int .u8 0, .int .u8 0, .int .u8 0, .int .u8 0, .int .u8 0, .int .u8 0, .int .u8 0, .int .u8 0, .int .u8 0, .int .u8 0, .int .u8 0, .int .u8 0, .int .u8 0, .int .u8 0, .int .u8 0, .int .u8 0, .int .u8 0, .int .u8 0, .int .u8 0, .int .u8 0, .int .u8 0, .int .i64 0, .slice none 0 0] 44) = w_14 at h ⊢
  obtain ⟨w_15, hx14, h⟩ := h
  refine y_u (s := Instr.storeAt 44 (.pointer (some (⟨w_11.heap.size, 0, none⟩ : Addr))) t32_13) rfl rfl (by kernel_rfl) hx14 ?_
  refine y_nil ?_
  refine y_then (hK11 _ _ ?_)
  refine y_seq fun K15 hK15 => ?_
  refine y_region ?_
  obtain ⟨t33_16, hx16, h⟩ := h
  refine y_v (s := Instr.loadAt 44 (.pointer (some (⟨w_11.heap.size, 0, none⟩ : Addr)))) rfl rfl rfl (by kernel_rfl) (hx16) ?_
  obtain ⟨t34_17, hx17, h⟩ := h
  refine y_v (s := Instr.build 42 #[(0, .int .u8 4)]) rfl rfl rfl (by kernel_rfl) (hx17) ?_
  obtain ⟨t35_18, t35_19, hx18, h⟩ := h
  refine y_v (s := Instr.loadAt 41 (.pointer (some (⟨w_9.heap.size, 0, none⟩ : Addr)))) rfl rfl rfl (by kernel_rfl) (rn_loadcells (k := 2) ⟨by kernel_rfl, by kernel_rfl⟩ rfl hx18) ?_
  refine y_k (.slice (some ⟨w_15.heap.size, 0, none⟩) 1 1 : Value) (w_15.alloc (.cells #[.slice t35_18.a t35_18.n t35_18.c, .slice t35_19.a t35_19.n t35_19.c] 41)) rfl rfl rfl (by kernel_rfl) ?_
  replace h := h _ rfl
  generalize w_15.alloc (.cells #[.slice t35_18.a t35_18.n t35_18.c, .slice t35_19.a t35_19.n t35_19.c] 41) = w_20 at h ⊢
  obtain ⟨t37_21, hx19, h⟩ := h
  refine y_v (s := Instr.build 47 #[(0, .int .i64 1), (1, .string ((ByteArray.mk #[116]))), (2, .int .i64 2), (3, .int .i64 3), (4, t33_16), (5, t34_17), (6, .int .i64 5), (7, .slice (some ⟨w_15.heap.size, 0, none⟩) 1 1)]) rfl rfl rfl (by kernel_rfl) (hx19) ?_
  refine y_k (.pointer (some (⟨w_20.heap.size, 0, none⟩ : Addr)) : Value) (w_20.alloc (.cells #[.int .i64 0, .string ByteArray.empty, .int .i64 0, .int .i64 0, .int .u8 0, .int .u8 0, .int .u8 0, .int .u8 0, .int .u8 0, .int .u8 0, .int .u8 0, .int .u8 0, .int .u8 0, .int .u8 0, .int .u8 0, .int .u8 0, .int .u8 0, .int .u8 0, .int .u8 0, .int .u8 0, .int .u8 0, .int .u8 0, .int .u8 0, .int .u8 0, .int .u8 0, .int .u8 0, .int .u8 0, .int .u8 0, .int .u8 0, .int .u8 0, .int .u8 0, .int .u8 0, .int .u8 0, .int .u8 0, .int .u8 0, .int .u8 0, .int .i64 0, .slice none 0 0, .int .u8 0, .int .u8 0, .int .u8 0, .int .u8 0, .int .u8 0, .int .u8 0, .int .u8 0, .int .u8 0, .int .u8 0, .int .u8 0, .int .u8 0, .int .u8 0, .int .u8 0, .int .u8 0, .int .u8 0, .int .u8 0, .int .u8 0, .int .u8 0, .int .u8 0, .int .u8 0, .int .u8 0, .int .u8 0, .int .u8 0, .int .u8 0, .int .u8 0, .int .u8 0, .int .u8 0, .int .u8 0, .int .u8 0, .int .u8 0, .int .u8 0, .int .u8 0, .int .i64 0, .slice none 0 0] 47)) rfl rfl rfl (by kernel_rfl) ?_
  replace h := h _ rfl
  generalize w_20.alloc (.cells #[.int .i64 0, .string ByteArray.empty, .int .i64 0, .int .i64 0, .int .u8 0, .int .u8 0, .int .u8 0, .int .u8 0, .int .u8 0, .int .u8 0, .int .u8 0, .int .u8 0, .int .u8 0, .int .u8 0, .int .u8 0, .int .u8 0, .int .u8 0, .int .u8 0, .int .u8 0, .int .u8 0, .int .u8 0, .int .u8 0, .int .u8 0, .int .u8 0, .int .u8 0, .int .u8 0, .int .u8 0, .int .u8 0, .int .u8 0, .int .u8 0, .int .u8 0, .int .u8 0, .int .u8 0, .int .u8 0, .int .u8 0, .int .u8 0, .int .i64 0, .slice none 0 0, .int .u8 0, .int .u8 0, .int .u8 0, .int .u8 0, .int .u8 0, .int .u8 0, .int .u8 0, .int .u8 0, .int .u8 0, .int .u8 0, .int .u8 0, .int .u8 0, .int .u8 0, .int .u8 0, .int .u8 0, .int .u8 0, .int .u8 0, .int .u8 0, .int .u8 0, .int .u8 0, .int .u8 0, .int .u8 0, .int .u8 0, .int .u8 0, .int .u8 0, .int .u8 0, .int .u8 0, .int .u8 0, .int .u8 0, .int .u8 0, .int .u8 0, .int .u8 0, .int .i64 0, .slice none 0 0] 47) = w_22 at h ⊢
  obtain ⟨w_23, hx20, h⟩ := h
  refine y_u (s := Instr.storeAt 47 (.pointer (some (⟨w_20.heap.size, 0, none⟩ : Addr))) t37_21) rfl rfl (by kernel_rfl) hx20 ?_
  refine y_nil ?_
  refine y_then (hK15 _ _ ?_)
  refine y_seq fun K21 hK21 => ?_
  refine y_region ?_
  refine y_k (.slice (some ⟨w_23.heap.size, 0, none⟩) 1 1 : Value) (w_23.alloc (.cells #[.int .u8 2] 5)) rfl rfl rfl (by kernel_rfl) ?_
  replace h := h _ rfl
  generalize w_23.alloc (.cells #[.int .u8 2] 5) = w_24 at h ⊢
  refine y_k (.pointer (some ((⟨w_20.heap.size, 0, none⟩ : Addr).add 71)) : Value) w_24 rfl rfl rfl (by kernel_rfl) ?_
  obtain ⟨t40_25, hx22, h⟩ := h
  refine y_v (s := Instr.loadAt 45 (.pointer (some ((⟨w_20.heap.size, 0, none⟩ : Addr).add 71)))) rfl rfl rfl (by kernel_rfl) (rn_load (by kernel_rfl) hx22) ?_
  refine y_k (.slice (some ⟨w_7.heap.size, 0, none⟩) 1 1 : Value) w_24 rfl rfl rfl (by kernel_rfl) ?_
  refine y_k (.slice (some ⟨w_24.heap.size, 0, none⟩) 1 1 : Value) (w_24.alloc (.cells #[.int .u8 8] 5)) rfl rfl rfl (by kernel_rfl) ?_
  replace h := h _ rfl
  generalize w_24.alloc (.cells #[.int .u8 8] 5) = w_26 at h ⊢
  obtain ⟨t43_27, hx23, h⟩ := h
  refine y_v (s := Instr.build 50 #[(0, .int .i64 1), (1, .string ((ByteArray.mk #[116]))), (2, .slice (some ⟨w_23.heap.size, 0, none⟩) 1 1), (3, .slice t40_25.a t40_25.n t40_25.c), (4, .slice (some ⟨w_7.heap.size, 0, none⟩) 1 1), (5, .int .i64 3), (6, .int .i64 4), (7, .string ((ByteArray.mk #[113]))), (8, .string ((ByteArray.mk #[110]))), (9, .int .i64 5), (10, .int .i64 6), (11, .int .i64 7), (12, .slice (some ⟨w_24.heap.size, 0, none⟩) 1 1)]) rfl rfl rfl (by kernel_rfl) (hx23) ?_
  refine y_k (.pointer (some (⟨w_26.heap.size, 0, none⟩ : Addr)) : Value) (w_26.alloc (.cells #[.int .i64 0, .string ByteArray.empty, .slice none 0 0, .slice none 0 0, .slice none 0 0, .int .i64 0, .int .i64 0, .string ByteArray.empty, .string ByteArray.empty, .int .i64 0, .int .i64 0, .int .i64 0, .slice none 0 0] 50)) rfl rfl rfl (by kernel_rfl) ?_
  replace h := h _ rfl
  generalize w_26.alloc (.cells #[.int .i64 0, .string ByteArray.empty, .slice none 0 0, .slice none 0 0, .slice none 0 0, .int .i64 0, .int .i64 0, .string ByteArray.empty, .string ByteArray.empty, .int .i64 0, .int .i64 0, .int .i64 0, .slice none 0 0] 50) = w_28 at h ⊢
  obtain ⟨w_29, hx24, h⟩ := h
  refine y_u (s := Instr.storeAt 50 (.pointer (some (⟨w_26.heap.size, 0, none⟩ : Addr))) t43_27) rfl rfl (by kernel_rfl) hx24 ?_
  refine y_nil ?_
  refine y_then (hK21 _ _ ?_)
  refine y_seq fun K25 hK25 => ?_
  refine y_region ?_
  refine y_k (.pointer (some ((⟨w_20.heap.size, 0, none⟩ : Addr).add 71)) : Value) w_29 rfl rfl rfl (by kernel_rfl) ?_
  obtain ⟨t45_30, hx26, h⟩ := h
  refine y_v (s := Instr.loadAt 45 (.pointer (some ((⟨w_20.heap.size, 0, none⟩ : Addr).add 71)))) rfl rfl rfl (by kernel_rfl) (rn_load (by kernel_rfl) hx26) ?_
  refine y_k (.slice (some ⟨w_6.heap.size, 0, none⟩) 1 1 : Value) w_29 rfl rfl rfl (by kernel_rfl) ?_
  refine y_k (.agg #[.slice (some ⟨w_6.heap.size, 0, none⟩) 1 1, .int .u64 2] : Value) w_29 rfl rfl rfl (by kernel_rfl) ?_
  refine y_k (.slice (some ⟨w_29.heap.size, 0, none⟩) 1 1 : Value) (w_29.alloc (.cells #[.slice (some ⟨w_6.heap.size, 0, none⟩) 1 1, .int .u64 2] 52)) rfl rfl rfl (by kernel_rfl) ?_
  replace h := h _ rfl
  generalize w_29.alloc (.cells #[.slice (some ⟨w_6.heap.size, 0, none⟩) 1 1, .int .u64 2] 52) = w_31 at h ⊢
  refine y_k (.slice (some ⟨w_31.heap.size, 0, none⟩) 1 1 : Value) (w_31.alloc (.cells #[.string ((ByteArray.mk #[120]))] 9)) rfl rfl rfl (by kernel_rfl) ?_
  replace h := h _ rfl
  generalize w_31.alloc (.cells #[.string ((ByteArray.mk #[120]))] 9) = w_32 at h ⊢
  refine y_k (.agg #[.int .i64 0, .int .i64 1, .slice t45_30.a t45_30.n t45_30.c, .slice (some ⟨w_29.heap.size, 0, none⟩) 1 1, .int .i64 3, .slice (some ⟨w_31.heap.size, 0, none⟩) 1 1] : Value) w_32 rfl rfl rfl (by kernel_rfl) ?_
  refine y_k (.pointer (some (⟨w_32.heap.size, 0, none⟩ : Addr)) : Value) (w_32.alloc (.cells #[.int .i64 0, .int .i64 0, .slice none 0 0, .slice none 0 0, .int .i64 0, .slice none 0 0] 56)) rfl rfl rfl (by kernel_rfl) ?_
  replace h := h _ rfl
  generalize w_32.alloc (.cells #[.int .i64 0, .int .i64 0, .slice none 0 0, .slice none 0 0, .int .i64 0, .slice none 0 0] 56) = w_33 at h ⊢
  obtain ⟨hx27, h⟩ := h
  replace h := h _ rfl
  refine y_u (s := Instr.storeAt 56 (.pointer (some (⟨w_32.heap.size, 0, none⟩ : Addr))) (.agg #[.int .i64 0, .int .i64 1, .slice t45_30.a t45_30.n t45_30.c, .slice (some ⟨w_29.heap.size, 0, none⟩) 1 1, .int .i64 3, .slice (some ⟨w_31.heap.size, 0, none⟩) 1 1] : Value)) rfl rfl (by kernel_rfl) (rn_storecells (k := 6) (cs := [.int .i64 0, .int .i64 1, .slice t45_30.a t45_30.n t45_30.c, .slice (some ⟨w_29.heap.size, 0, none⟩) 1 1, .int .i64 3, .slice (some ⟨w_31.heap.size, 0, none⟩) 1 1]) (by kernel_rfl) rfl (by simp [Value.oneCell']) hx27) ?_
  generalize setCells w_33 (⟨w_32.heap.size, 0, none⟩ : Addr) 0 [.int .i64 0, .int .i64 1, .slice t45_30.a t45_30.n t45_30.c, .slice (some ⟨w_29.heap.size, 0, none⟩) 1 1, .int .i64 3, .slice (some ⟨w_31.heap.size, 0, none⟩) 1 1] = w_34 at h ⊢
  refine y_nil ?_
  refine y_then (hK25 _ _ ?_)
  refine y_seq fun K28 hK28 => ?_
  refine y_region ?_
  refine y_k (.agg #[.int .i64 1, .int .i64 2, .int .i64 3, .int .i64 4, .int .i64 5] : Value) w_34 rfl rfl rfl (by kernel_rfl) ?_
  refine y_k (.pointer (some (⟨w_34.heap.size, 0, none⟩ : Addr)) : Value) (w_34.alloc (.cells #[.int .i64 0, .int .i64 0, .int .i64 0, .int .i64 0, .int .i64 0] 58)) rfl rfl rfl (by kernel_rfl) ?_
  replace h := h _ rfl
  generalize w_34.alloc (.cells #[.int .i64 0, .int .i64 0, .int .i64 0, .int .i64 0, .int .i64 0] 58) = w_35 at h ⊢
  obtain ⟨hx29, h⟩ := h
  replace h := h _ rfl
  refine y_u (s := Instr.storeAt 58 (.pointer (some (⟨w_34.heap.size, 0, none⟩ : Addr))) (.agg #[.int .i64 1, .int .i64 2, .int .i64 3, .int .i64 4, .int .i64 5] : Value)) rfl rfl (by kernel_rfl) (rn_storecells (k := 5) (cs := [.int .i64 1, .int .i64 2, .int .i64 3, .int .i64 4, .int .i64 5]) (by kernel_rfl) rfl (by simp [Value.oneCell']) hx29) ?_
  generalize setCells w_35 (⟨w_34.heap.size, 0, none⟩ : Addr) 0 [.int .i64 1, .int .i64 2, .int .i64 3, .int .i64 4, .int .i64 5] = w_36 at h ⊢
  refine y_nil ?_
  refine y_then (hK28 _ _ ?_)
  refine y_seq fun K30 hK30 => ?_
  have hjK30 : ∀ (f : Fr) (all12_54 : Bool) (w_55 : World), f 1 = (.pointer (some (⟨w.heap.size, 0, none⟩ : Addr)) : Value) → f 2 = t16_2 → f 3 = (.int .i64 t21_5 : Value) → f 12 = (.bool all12_54 : Value) → F3_j1 K w t16_2 t21_5 all12_54 w_55 → WK K30 125 f w_55 := by
    intro f all12_54 w_55 e1 e2 e3 e12 h
    refine y_atf (upd_id (upd_id (upd_id (upd_id rfl e1) e2) e3) e12) ?_
    clear e1 e2 e3 e12
    unfold F3_j1 at h
    refine hK30 _ _ ?_
    refine y_seq fun K52 hK52 => ?_
    have hjK52 : ∀ (f : Fr) (t0_62 : Bool) (w_63 : World), f 0 = (.bool t0_62 : Value) → F3_j2 K t0_62 w_63 → WK K52 125 f w_63 := by
      intro f t0_62 w_63 e0 h
      refine y_atf (upd_id rfl e0) ?_
      clear e0
      unfold F3_j2 at h
      refine hK52 _ _ ?_
      refine y_ret ?_
      repeat (first | refine e_then_r ?_ | refine e_block_r ?_)
      exact (hQ0 _ _ _ (res1 (v := (.bool t0_62 : Value)) rfl rfl rfl) ⟨_, rfl, h⟩).1
    refine y_region ?_
    refine y_k t16_2 w_55 rfl rfl rfl (by kernel_rfl) ?_
    refine y_k (Value.iface 23 (.int .i64 90)) w_55 rfl rfl rfl (by kernel_rfl) ?_
    obtain ⟨t101_56, hx53, h⟩ := h
    refine y_v (s := do eqGuard .eql 27 (Operand.tmp 99) (Operand.tmp 100) t16_2 (Value.iface 23 (.int .i64 90)); binOp .eql 27 t16_2 (Value.iface 23 (.int .i64 90))) rfl rfl rfl (by kernel_rfl) (hx53) ?_
    refine y_k (.bool t101_56 : Value) w_55 rfl rfl rfl (by kernel_rfl) ?_
    refine y_fork (t101_56) (fun hb54 => ?_) (fun hb54 => ?_)
    · replace h := h.1 (hb54)
      refine y_frame (upd_id (i := 102) (v := .bool true) rfl (congrArg Value.bool hb54)) ?_
      refine y_gyes rfl rfl rfl ?_
      refine y_k (.pointer (some (⟨w.heap.size, 0, none⟩ : Addr)) : Value) w_55 rfl rfl rfl (by kernel_rfl) ?_
      refine y_gyes rfl rfl rfl ?_
      refine y_call rfl rfl rfl (by kernel_rfl) (h.mono ?_)
      rintro _ w_58 ⟨t104_57, rfl, h⟩
      refine ⟨_, rfl, ?_⟩
      refine y_gyes rfl rfl rfl ?_
      refine y_k (.bool (!((t104_57.toList == (((ByteArray.mk #[])).toList)))) : Value) w_58 rfl rfl rfl (by kernel_rfl) ?_
      refine y_k (.bool (!((t104_57.toList == (((ByteArray.mk #[])).toList)))) : Value) w_58 rfl rfl rfl (by kernel_rfl) ?_
      refine y_k (.bool (!((t104_57.toList == (((ByteArray.mk #[])).toList)))) : Value) w_58 rfl rfl rfl (by kernel_rfl) ?_
      refine y_fork (!((t104_57.toList == (((ByteArray.mk #[])).toList)))) (fun hb55 => ?_) (fun hb55 => ?_)
      · replace h := h.1 (beq_eq_false_iff_ne.mp (not_true_of hb55))
        refine y_frame (upd_id (i := 107) (v := .bool true) rfl (congrArg Value.bool hb55)) ?_
        refine y_gyes rfl rfl rfl ?_
        refine y_call rfl rfl rfl (by kernel_rfl) (h.mono ?_)
        rintro _ w_60 ⟨t108_59, rfl, h⟩
        refine ⟨_, rfl, ?_⟩
        refine y_gyes rfl rfl rfl ?_
        refine y_k (.bool (!((t108_59.toList == (((ByteArray.mk #[])).toList)))) : Value) w_60 rfl rfl rfl (by kernel_rfl) ?_
        refine y_k (.bool (!((t108_59.toList == (((ByteArray.mk #[])).toList)))) : Value) w_60 rfl rfl rfl (by kernel_rfl) ?_
        refine y_k (.bool (!((t108_59.toList == (((ByteArray.mk #[])).toList)))) : Value) w_60 rfl rfl rfl (by kernel_rfl) ?_
        refine y_fork (!((t108_59.toList == (((ByteArray.mk #[])).toList)))) (fun hb56 => ?_) (fun hb56 => ?_)
        · replace h := h.1 (beq_eq_false_iff_ne.mp (not_true_of hb56))
          refine y_frame (upd_id (i := 111) (v := .bool true) rfl (congrArg Value.bool hb56)) ?_
          refine y_gyes rfl rfl rfl ?_
          refine y_k (.int .i64 t21_5 : Value) w_60 rfl rfl rfl (by kernel_rfl) ?_
          refine y_gyes rfl rfl rfl ?_
          refine y_k (.bool ((t21_5 == 90)) : Value) w_60 rfl rfl rfl (by kernel_rfl) ?_
          refine y_k (.bool ((t21_5 == 90)) : Value) w_60 rfl rfl rfl (by kernel_rfl) ?_
          refine y_k (.bool ((t21_5 == 90)) : Value) w_60 rfl rfl rfl (by kernel_rfl) ?_
          refine y_fork ((t21_5 == 90)) (fun hb57 => ?_) (fun hb57 => ?_)
          · replace h := h.1 (eq_of_beq hb57)
            refine y_frame (upd_id (i := 115) (v := .bool true) rfl (congrArg Value.bool hb57)) ?_
            refine y_gyes rfl rfl rfl ?_
            refine y_k (.pointer (some (⟨w.heap.size, 0, none⟩ : Addr)) : Value) w_60 rfl rfl rfl (by kernel_rfl) ?_
            refine y_gyes rfl rfl rfl ?_
            refine y_k (.pointer (some (⟨w.heap.size, 0, none⟩ : Addr)) : Value) w_60 rfl rfl rfl (by kernel_rfl) ?_
            refine y_gyes rfl rfl rfl ?_
            refine y_k (.pointer (some (⟨w.heap.size, 0, none⟩ : Addr)) : Value) w_60 rfl rfl rfl (by kernel_rfl) ?_
            refine y_gyes rfl rfl rfl ?_
            obtain ⟨t119_61, hx58, h⟩ := h
            refine y_v (s := Instr.loadAt 3 (.pointer (some (⟨w.heap.size, 0, none⟩ : Addr)))) rfl rfl rfl (by kernel_rfl) (rn_load (by kernel_rfl) hx58) ?_
            refine y_gyes rfl rfl rfl ?_
            refine y_k (.bool ((t119_61 == 7)) : Value) w_60 rfl rfl rfl (by kernel_rfl) ?_
            refine y_k (.bool ((t119_61 == 7)) : Value) w_60 rfl rfl rfl (by kernel_rfl) ?_
            refine y_k (.bool ((t119_61 == 7)) : Value) w_60 rfl rfl rfl (by kernel_rfl) ?_
            refine y_fork ((t119_61 == 7)) (fun hb59 => ?_) (fun hb59 => ?_)
            · replace h := h.1 (eq_of_beq hb59)
              refine y_frame (upd_id (i := 122) (v := .bool true) rfl (congrArg Value.bool hb59)) ?_
              refine y_gyes rfl rfl rfl ?_
              refine y_k (.bool all12_54 : Value) w_60 rfl rfl rfl (by kernel_rfl) ?_
              refine y_k (.bool all12_54 : Value) w_60 rfl rfl rfl (by kernel_rfl) ?_
              refine y_k (.bool all12_54 : Value) w_60 rfl rfl rfl (by kernel_rfl) ?_
              refine y_nil ?_
              exact y_then (hjK52 _ all12_54 w_60 rfl h)
            · replace h := h.2 (beq_eq_false_iff_ne.mp hb59)
              refine y_frame (upd_id (i := 122) (v := .bool false) rfl (congrArg Value.bool hb59)) ?_
              refine y_gno rfl rfl rfl rfl ?_
              refine y_k (.bool false : Value) w_60 rfl rfl rfl (by kernel_rfl) ?_
              refine y_k (.bool false : Value) w_60 rfl rfl rfl (by kernel_rfl) ?_
              refine y_nil ?_
              exact y_then (hjK52 _ false w_60 rfl h)
          · replace h := h.2 (beq_eq_false_iff_ne.mp hb57)
            refine y_frame (upd_id (i := 115) (v := .bool false) rfl (congrArg Value.bool hb57)) ?_
            refine y_gno rfl rfl rfl rfl ?_
            refine y_gno rfl rfl rfl rfl ?_
            refine y_gno rfl rfl rfl rfl ?_
            refine y_gno rfl rfl rfl rfl ?_
            refine y_gno rfl rfl rfl rfl ?_
            refine y_k (.bool false : Value) w_60 rfl rfl rfl (by kernel_rfl) ?_
            refine y_k (.bool false : Value) w_60 rfl rfl rfl (by kernel_rfl) ?_
            refine y_gno rfl rfl rfl rfl ?_
            refine y_k (.bool false : Value) w_60 rfl rfl rfl (by kernel_rfl) ?_
            refine y_k (.bool false : Value) w_60 rfl rfl rfl (by kernel_rfl) ?_
            refine y_nil ?_
            exact y_then (hjK52 _ false w_60 rfl h)
        · replace h := h.2 (eq_of_beq (not_false_of hb56))
          refine y_frame (upd_id (i := 111) (v := .bool false) rfl (congrArg Value.bool hb56)) ?_
          refine y_gno rfl rfl rfl rfl ?_
          refine y_gno rfl rfl rfl rfl ?_
          refine y_k (.bool false : Value) w_60 rfl rfl rfl (by kernel_rfl) ?_
          refine y_k (.bool false : Value) w_60 rfl rfl rfl (by kernel_rfl) ?_
          refine y_gno rfl rfl rfl rfl ?_
          refine y_gno rfl rfl rfl rfl ?_
          refine y_gno rfl rfl rfl rfl ?_
          refine y_gno rfl rfl rfl rfl ?_
          refine y_gno rfl rfl rfl rfl ?_
          refine y_k (.bool false : Value) w_60 rfl rfl rfl (by kernel_rfl) ?_
          refine y_k (.bool false : Value) w_60 rfl rfl rfl (by kernel_rfl) ?_
          refine y_gno rfl rfl rfl rfl ?_
          refine y_k (.bool false : Value) w_60 rfl rfl rfl (by kernel_rfl) ?_
          refine y_k (.bool false : Value) w_60 rfl rfl rfl (by kernel_rfl) ?_
          refine y_nil ?_
          exact y_then (hjK52 _ false w_60 rfl h)
      · replace h := h.2 (eq_of_beq (not_false_of hb55))
        refine y_frame (upd_id (i := 107) (v := .bool false) rfl (congrArg Value.bool hb55)) ?_
        refine y_gno rfl rfl rfl rfl ?_
        refine y_gno rfl rfl rfl rfl ?_
        refine y_k (.bool false : Value) w_58 rfl rfl rfl (by kernel_rfl) ?_
        refine y_k (.bool false : Value) w_58 rfl rfl rfl (by kernel_rfl) ?_
        refine y_gno rfl rfl rfl rfl ?_
        refine y_gno rfl rfl rfl rfl ?_
        refine y_k (.bool false : Value) w_58 rfl rfl rfl (by kernel_rfl) ?_
        refine y_k (.bool false : Value) w_58 rfl rfl rfl (by kernel_rfl) ?_
        refine y_gno rfl rfl rfl rfl ?_
        refine y_gno rfl rfl rfl rfl ?_
        refine y_gno rfl rfl rfl rfl ?_
        refine y_gno rfl rfl rfl rfl ?_
        refine y_gno rfl rfl rfl rfl ?_
        refine y_k (.bool false : Value) w_58 rfl rfl rfl (by kernel_rfl) ?_
        refine y_k (.bool false : Value) w_58 rfl rfl rfl (by kernel_rfl) ?_
        refine y_gno rfl rfl rfl rfl ?_
        refine y_k (.bool false : Value) w_58 rfl rfl rfl (by kernel_rfl) ?_
        refine y_k (.bool false : Value) w_58 rfl rfl rfl (by kernel_rfl) ?_
        refine y_nil ?_
        exact y_then (hjK52 _ false w_58 rfl h)
    · replace h := h.2 (hb54)
      refine y_frame (upd_id (i := 102) (v := .bool false) rfl (congrArg Value.bool hb54)) ?_
      refine y_gno rfl rfl rfl rfl ?_
      refine y_gno rfl rfl rfl rfl ?_
      refine y_gno rfl rfl rfl rfl ?_
      refine y_k (.bool false : Value) w_55 rfl rfl rfl (by kernel_rfl) ?_
      refine y_k (.bool false : Value) w_55 rfl rfl rfl (by kernel_rfl) ?_
      refine y_gno rfl rfl rfl rfl ?_
      refine y_gno rfl rfl rfl rfl ?_
      refine y_k (.bool false : Value) w_55 rfl rfl rfl (by kernel_rfl) ?_
      refine y_k (.bool false : Value) w_55 rfl rfl rfl (by kernel_rfl) ?_
      refine y_gno rfl rfl rfl rfl ?_
      refine y_gno rfl rfl rfl rfl ?_
      refine y_k (.bool false : Value) w_55 rfl rfl rfl (by kernel_rfl) ?_
      refine y_k (.bool false : Value) w_55 rfl rfl rfl (by kernel_rfl) ?_
      refine y_gno rfl rfl rfl rfl ?_
      refine y_gno rfl rfl rfl rfl ?_
      refine y_gno rfl rfl rfl rfl ?_
      refine y_gno rfl rfl rfl rfl ?_
      refine y_gno rfl rfl rfl rfl ?_
      refine y_k (.bool false : Value) w_55 rfl rfl rfl (by kernel_rfl) ?_
      refine y_k (.bool false : Value) w_55 rfl rfl rfl (by kernel_rfl) ?_
      refine y_gno rfl rfl rfl rfl ?_
      refine y_k (.bool false : Value) w_55 rfl rfl rfl (by kernel_rfl) ?_
      refine y_k (.bool false : Value) w_55 rfl rfl rfl (by kernel_rfl) ?_
      refine y_nil ?_
      exact y_then (hjK52 _ false w_55 rfl h)
  refine y_region ?_
  refine y_k (.pointer (some ((⟨w_20.heap.size, 0, none⟩ : Addr).add 4)) : Value) w_36 rfl rfl rfl (by kernel_rfl) ?_
  refine y_k (.pointer (some (((⟨w_20.heap.size, 0, none⟩ : Addr).add 4).add 33)) : Value) w_36 rfl rfl rfl (by kernel_rfl) ?_
  obtain ⟨t54_37, hx31, h⟩ := h
  refine y_v (s := Instr.loadAt 35 (.pointer (some (((⟨w_20.heap.size, 0, none⟩ : Addr).add 4).add 33)))) rfl rfl rfl (by kernel_rfl) (rn_load (by kernel_rfl) hx31) ?_
  obtain ⟨hx32a, hx32b, a_38, hx32, h⟩ := h
  refine y_v (v := (.pointer (some (a_38.add (Int.toNat 0 * 3))) : Value)) (s := Instr.indexAt 35 (.slice t54_37.a t54_37.n t54_37.c : Value) (.int .i64 0 : Value)) rfl rfl rfl (by kernel_rfl) (run_ixs (el := 34) (by kernel_rfl) (by kernel_rfl) hx32 hx32a hx32b) ?_
  refine y_k (.pointer (some ((a_38.add (Int.toNat 0 * 3)).add 2)) : Value) w_36 rfl rfl rfl (by kernel_rfl) ?_
  obtain ⟨t57_39, hx33, h⟩ := h
  refine y_v (s := Instr.loadAt 9 (.pointer (some ((a_38.add (Int.toNat 0 * 3)).add 2)))) rfl rfl rfl (by kernel_rfl) (rn_load (by kernel_rfl) hx33) ?_
  refine y_k (.bool ((t57_39.toList == (((ByteArray.mk #[98])).toList))) : Value) w_36 rfl rfl rfl (by kernel_rfl) ?_
  refine y_k (.bool ((t57_39.toList == (((ByteArray.mk #[98])).toList))) : Value) w_36 rfl rfl rfl (by kernel_rfl) ?_
  refine y_fork ((t57_39.toList == (((ByteArray.mk #[98])).toList))) (fun hb34 => ?_) (fun hb34 => ?_)
  · replace h := h.1 (eq_of_beq hb34)
    refine y_frame (upd_id (i := 59) (v := .bool true) rfl (congrArg Value.bool hb34)) ?_
    refine y_gyes rfl rfl rfl ?_
    refine y_k (.pointer (some ((⟨w_26.heap.size, 0, none⟩ : Addr).add 3)) : Value) w_36 rfl rfl rfl (by kernel_rfl) ?_
    refine y_gyes rfl rfl rfl ?_
    obtain ⟨t61_40, hx35, h⟩ := h
    refine y_v (s := Instr.loadAt 45 (.pointer (some ((⟨w_26.heap.size, 0, none⟩ : Addr).add 3)))) rfl rfl rfl (by kernel_rfl) (rn_load (by kernel_rfl) hx35) ?_
    refine y_gyes rfl rfl rfl ?_
    obtain ⟨hx36a, hx36b, a_41, hx36, h⟩ := h
    refine y_v (v := (.pointer (some (a_41.add (Int.toNat 0 * 2))) : Value)) (s := Instr.indexAt 45 (.slice t61_40.a t61_40.n t61_40.c : Value) (.int .i64 0 : Value)) rfl rfl rfl (by kernel_rfl) (run_ixs (el := 41) (by kernel_rfl) (by kernel_rfl) hx36 hx36a hx36b) ?_
    refine y_gyes rfl rfl rfl ?_
    refine y_k (.pointer (some ((a_41.add (Int.toNat 0 * 2)).add 1)) : Value) w_36 rfl rfl rfl (by kernel_rfl) ?_
    refine y_gyes rfl rfl rfl ?_
    obtain ⟨t64_42, hx37, h⟩ := h
    refine y_v (s := Instr.loadAt 39 (.pointer (some ((a_41.add (Int.toNat 0 * 2)).add 1)))) rfl rfl rfl (by kernel_rfl) (rn_load (by kernel_rfl) hx37) ?_
    refine y_gyes rfl rfl rfl ?_
    obtain ⟨hx38a, hx38b, a_43, hx38, h⟩ := h
    refine y_v (v := (.pointer (some (a_43.add (Int.toNat 0 * 2))) : Value)) (s := Instr.indexAt 39 (.slice t64_42.a t64_42.n t64_42.c : Value) (.int .i64 0 : Value)) rfl rfl rfl (by kernel_rfl) (run_ixs (el := 38) (by kernel_rfl) (by kernel_rfl) hx38 hx38a hx38b) ?_
    refine y_gyes rfl rfl rfl ?_
    refine y_k (.pointer (some (a_43.add (Int.toNat 0 * 2))) : Value) w_36 rfl rfl rfl (by kernel_rfl) ?_
    refine y_gyes rfl rfl rfl ?_
    obtain ⟨t67_44, hx39, h⟩ := h
    refine y_v (s := Instr.loadAt 2 (.pointer (some (a_43.add (Int.toNat 0 * 2))))) rfl rfl rfl (by kernel_rfl) (rn_load (by kernel_rfl) hx39) ?_
    refine y_gyes rfl rfl rfl ?_
    refine y_k (.bool ((t67_44 == (((-1))))) : Value) w_36 rfl rfl rfl (by kernel_rfl) ?_
    refine y_k (.bool ((t67_44 == (((-1))))) : Value) w_36 rfl rfl rfl (by kernel_rfl) ?_
    refine y_k (.bool ((t67_44 == (((-1))))) : Value) w_36 rfl rfl rfl (by kernel_rfl) ?_
    refine y_fork ((t67_44 == (((-1))))) (fun hb40 => ?_) (fun hb40 => ?_)
    · replace h := h.1 (eq_of_beq hb40)
      refine y_frame (upd_id (i := 70) (v := .bool true) rfl (congrArg Value.bool hb40)) ?_
      refine y_gyes rfl rfl rfl ?_
      refine y_k (.pointer (some ((⟨w_32.heap.size, 0, none⟩ : Addr).add 3)) : Value) w_36 rfl rfl rfl (by kernel_rfl) ?_
      refine y_gyes rfl rfl rfl ?_
      obtain ⟨t72_45, hx41, h⟩ := h
      refine y_v (s := Instr.loadAt 53 (.pointer (some ((⟨w_32.heap.size, 0, none⟩ : Addr).add 3)))) rfl rfl rfl (by kernel_rfl) (rn_load (by kernel_rfl) hx41) ?_
      refine y_gyes rfl rfl rfl ?_
      obtain ⟨hx42a, hx42b, a_46, hx42, h⟩ := h
      refine y_v (v := (.pointer (some (a_46.add (Int.toNat 0 * 2))) : Value)) (s := Instr.indexAt 53 (.slice t72_45.a t72_45.n t72_45.c : Value) (.int .i64 0 : Value)) rfl rfl rfl (by kernel_rfl) (run_ixs (el := 52) (by kernel_rfl) (by kernel_rfl) hx42 hx42a hx42b) ?_
      refine y_gyes rfl rfl rfl ?_
      refine y_k (.pointer (some ((a_46.add (Int.toNat 0 * 2)).add 1)) : Value) w_36 rfl rfl rfl (by kernel_rfl) ?_
      refine y_gyes rfl rfl rfl ?_
      obtain ⟨t75_47, hx43, h⟩ := h
      refine y_v (s := Instr.loadAt 36 (.pointer (some ((a_46.add (Int.toNat 0 * 2)).add 1)))) rfl rfl rfl (by kernel_rfl) (rn_load (by kernel_rfl) hx43) ?_
      refine y_gyes rfl rfl rfl ?_
      refine y_k (.bool ((t75_47 == 2)) : Value) w_36 rfl rfl rfl (by kernel_rfl) ?_
      refine y_k (.bool ((t75_47 == 2)) : Value) w_36 rfl rfl rfl (by kernel_rfl) ?_
      refine y_k (.bool ((t75_47 == 2)) : Value) w_36 rfl rfl rfl (by kernel_rfl) ?_
      refine y_fork ((t75_47 == 2)) (fun hb44 => ?_) (fun hb44 => ?_)
      · replace h := h.1 (eq_of_beq hb44)
        refine y_frame (upd_id (i := 78) (v := .bool true) rfl (congrArg Value.bool hb44)) ?_
        refine y_gyes rfl rfl rfl ?_
        refine y_k (.pointer (some (⟨w_34.heap.size, 0, none⟩ : Addr)) : Value) w_36 rfl rfl rfl (by kernel_rfl) ?_
        refine y_gyes rfl rfl rfl ?_
        obtain ⟨t80_48, hx45, h⟩ := h
        refine y_v (s := Instr.loadAt 3 (.pointer (some (⟨w_34.heap.size, 0, none⟩ : Addr)))) rfl rfl rfl (by kernel_rfl) (rn_load (by kernel_rfl) hx45) ?_
        refine y_gyes rfl rfl rfl ?_
        refine y_k (.pointer (some ((⟨w_34.heap.size, 0, none⟩ : Addr).add 1)) : Value) w_36 rfl rfl rfl (by kernel_rfl) ?_
        refine y_gyes rfl rfl rfl ?_
        obtain ⟨t82_49, hx46, h⟩ := h
        refine y_v (s := Instr.loadAt 3 (.pointer (some ((⟨w_34.heap.size, 0, none⟩ : Addr).add 1)))) rfl rfl rfl (by kernel_rfl) (rn_load (by kernel_rfl) hx46) ?_
        refine y_gyes rfl rfl rfl ?_
        refine y_k (.int .i64 (IntKind.i64.wrap (t80_48 + t82_49)) : Value) w_36 rfl rfl rfl (by kernel_rfl) ?_
        refine y_gyes rfl rfl rfl ?_
        refine y_k (.pointer (some ((⟨w_34.heap.size, 0, none⟩ : Addr).add 2)) : Value) w_36 rfl rfl rfl (by kernel_rfl) ?_
        refine y_gyes rfl rfl rfl ?_
        obtain ⟨t85_50, hx47, h⟩ := h
        refine y_v (s := Instr.loadAt 3 (.pointer (some ((⟨w_34.heap.size, 0, none⟩ : Addr).add 2)))) rfl rfl rfl (by kernel_rfl) (rn_load (by kernel_rfl) hx47) ?_
        refine y_gyes rfl rfl rfl ?_
        refine y_k (.int .i64 (IntKind.i64.wrap ((IntKind.i64.wrap (t80_48 + t82_49)) + t85_50)) : Value) w_36 rfl rfl rfl (by kernel_rfl) ?_
        refine y_gyes rfl rfl rfl ?_
        refine y_k (.pointer (some ((⟨w_34.heap.size, 0, none⟩ : Addr).add 3)) : Value) w_36 rfl rfl rfl (by kernel_rfl) ?_
        refine y_gyes rfl rfl rfl ?_
        obtain ⟨t88_51, hx48, h⟩ := h
        refine y_v (s := Instr.loadAt 3 (.pointer (some ((⟨w_34.heap.size, 0, none⟩ : Addr).add 3)))) rfl rfl rfl (by kernel_rfl) (rn_load (by kernel_rfl) hx48) ?_
        refine y_gyes rfl rfl rfl ?_
        refine y_k (.int .i64 (IntKind.i64.wrap ((IntKind.i64.wrap ((IntKind.i64.wrap (t80_48 + t82_49)) + t85_50)) + t88_51)) : Value) w_36 rfl rfl rfl (by kernel_rfl) ?_
        refine y_gyes rfl rfl rfl ?_
        refine y_k (.bool ((((IntKind.i64.wrap ((IntKind.i64.wrap ((IntKind.i64.wrap (t80_48 + t82_49)) + t85_50)) + t88_51))) == 10)) : Value) w_36 rfl rfl rfl (by kernel_rfl) ?_
        refine y_k (.bool ((((IntKind.i64.wrap ((IntKind.i64.wrap ((IntKind.i64.wrap (t80_48 + t82_49)) + t85_50)) + t88_51))) == 10)) : Value) w_36 rfl rfl rfl (by kernel_rfl) ?_
        refine y_k (.bool ((((IntKind.i64.wrap ((IntKind.i64.wrap ((IntKind.i64.wrap (t80_48 + t82_49)) + t85_50)) + t88_51))) == 10)) : Value) w_36 rfl rfl rfl (by kernel_rfl) ?_
        refine y_fork ((((IntKind.i64.wrap ((IntKind.i64.wrap ((IntKind.i64.wrap (t80_48 + t82_49)) + t85_50)) + t88_51))) == 10)) (fun hb49 => ?_) (fun hb49 => ?_)
        · replace h := h.1 (eq_of_beq hb49)
          refine y_frame (upd_id (i := 92) (v := .bool true) rfl (congrArg Value.bool hb49)) ?_
          refine y_gyes rfl rfl rfl ?_
          refine y_k (.pointer (some ((⟨w_34.heap.size, 0, none⟩ : Addr).add 4)) : Value) w_36 rfl rfl rfl (by kernel_rfl) ?_
          refine y_gyes rfl rfl rfl ?_
          obtain ⟨t94_52, hx50, h⟩ := h
          refine y_v (s := Instr.loadAt 2 (.pointer (some ((⟨w_34.heap.size, 0, none⟩ : Addr).add 4)))) rfl rfl rfl (by kernel_rfl) (rn_load (by kernel_rfl) hx50) ?_
          refine y_gyes rfl rfl rfl ?_
          refine y_k (.pointer (some ((⟨w_20.heap.size, 0, none⟩ : Addr).add 70)) : Value) w_36 rfl rfl rfl (by kernel_rfl) ?_
          refine y_gyes rfl rfl rfl ?_
          obtain ⟨t96_53, hx51, h⟩ := h
          refine y_v (s := Instr.loadAt 2 (.pointer (some ((⟨w_20.heap.size, 0, none⟩ : Addr).add 70)))) rfl rfl rfl (by kernel_rfl) (rn_load (by kernel_rfl) hx51) ?_
          refine y_gyes rfl rfl rfl ?_
          refine y_k (.bool ((t94_52 == t96_53)) : Value) w_36 rfl rfl rfl (by kernel_rfl) ?_
          refine y_k (.bool ((t94_52 == t96_53)) : Value) w_36 rfl rfl rfl (by kernel_rfl) ?_
          refine y_k (.bool ((t94_52 == t96_53)) : Value) w_36 rfl rfl rfl (by kernel_rfl) ?_
          refine y_nil ?_
          exact y_then (hjK30 _ ((t94_52 == t96_53)) w_36 rfl rfl rfl rfl h)
        · replace h := h.2 (beq_eq_false_iff_ne.mp hb49)
          refine y_frame (upd_id (i := 92) (v := .bool false) rfl (congrArg Value.bool hb49)) ?_
          refine y_gno rfl rfl rfl rfl ?_
          refine y_gno rfl rfl rfl rfl ?_
          refine y_gno rfl rfl rfl rfl ?_
          refine y_gno rfl rfl rfl rfl ?_
          refine y_gno rfl rfl rfl rfl ?_
          refine y_k (.bool false : Value) w_36 rfl rfl rfl (by kernel_rfl) ?_
          refine y_k (.bool false : Value) w_36 rfl rfl rfl (by kernel_rfl) ?_
          refine y_nil ?_
          exact y_then (hjK30 _ false w_36 rfl rfl rfl rfl h)
      · replace h := h.2 (beq_eq_false_iff_ne.mp hb44)
        refine y_frame (upd_id (i := 78) (v := .bool false) rfl (congrArg Value.bool hb44)) ?_
        refine y_gno rfl rfl rfl rfl ?_
        refine y_gno rfl rfl rfl rfl ?_
        refine y_gno rfl rfl rfl rfl ?_
        refine y_gno rfl rfl rfl rfl ?_
        refine y_gno rfl rfl rfl rfl ?_
        refine y_gno rfl rfl rfl rfl ?_
        refine y_gno rfl rfl rfl rfl ?_
        refine y_gno rfl rfl rfl rfl ?_
        refine y_gno rfl rfl rfl rfl ?_
        refine y_gno rfl rfl rfl rfl ?_
        refine y_gno rfl rfl rfl rfl ?_
        refine y_gno rfl rfl rfl rfl ?_
        refine y_k (.bool false : Value) w_36 rfl rfl rfl (by kernel_rfl) ?_
        refine y_k (.bool false : Value) w_36 rfl rfl rfl (by kernel_rfl) ?_
        refine y_gno rfl rfl rfl rfl ?_
        refine y_gno rfl rfl rfl rfl ?_
        refine y_gno rfl rfl rfl rfl ?_
        refine y_gno rfl rfl rfl rfl ?_
        refine y_gno rfl rfl rfl rfl ?_
        refine y_k (.bool false : Value) w_36 rfl rfl rfl (by kernel_rfl) ?_
        refine y_k (.bool false : Value) w_36 rfl rfl rfl (by kernel_rfl) ?_
        refine y_nil ?_
        exact y_then (hjK30 _ false w_36 rfl rfl rfl rfl h)
    · replace h := h.2 (beq_eq_false_iff_ne.mp hb40)
      refine y_frame (upd_id (i := 70) (v := .bool false) rfl (congrArg Value.bool hb40)) ?_
      refine y_gno rfl rfl rfl rfl ?_
      refine y_gno rfl rfl rfl rfl ?_
      refine y_gno rfl rfl rfl rfl ?_
      refine y_gno rfl rfl rfl rfl ?_
      refine y_gno rfl rfl rfl rfl ?_
      refine y_gno rfl rfl rfl rfl ?_
      refine y_k (.bool false : Value) w_36 rfl rfl rfl (by kernel_rfl) ?_
      refine y_k (.bool false : Value) w_36 rfl rfl rfl (by kernel_rfl) ?_
      refine y_gno rfl rfl rfl rfl ?_
      refine y_gno rfl rfl rfl rfl ?_
      refine y_gno rfl rfl rfl rfl ?_
      refine y_gno rfl rfl rfl rfl ?_
      refine y_gno rfl rfl rfl rfl ?_
      refine y_gno rfl rfl rfl rfl ?_
      refine y_gno rfl rfl rfl rfl ?_
      refine y_gno rfl rfl rfl rfl ?_
      refine y_gno rfl rfl rfl rfl ?_
      refine y_gno rfl rfl rfl rfl ?_
      refine y_gno rfl rfl rfl rfl ?_
      refine y_gno rfl rfl rfl rfl ?_
      refine y_k (.bool false : Value) w_36 rfl rfl rfl (by kernel_rfl) ?_
      refine y_k (.bool false : Value) w_36 rfl rfl rfl (by kernel_rfl) ?_
      refine y_gno rfl rfl rfl rfl ?_
      refine y_gno rfl rfl rfl rfl ?_
      refine y_gno rfl rfl rfl rfl ?_
      refine y_gno rfl rfl rfl rfl ?_
      refine y_gno rfl rfl rfl rfl ?_
      refine y_k (.bool false : Value) w_36 rfl rfl rfl (by kernel_rfl) ?_
      refine y_k (.bool false : Value) w_36 rfl rfl rfl (by kernel_rfl) ?_
      refine y_nil ?_
      exact y_then (hjK30 _ false w_36 rfl rfl rfl rfl h)
  · replace h := h.2 (beq_eq_false_iff_ne.mp hb34)
    refine y_frame (upd_id (i := 59) (v := .bool false) rfl (congrArg Value.bool hb34)) ?_
    refine y_gno rfl rfl rfl rfl ?_
    refine y_gno rfl rfl rfl rfl ?_
    refine y_gno rfl rfl rfl rfl ?_
    refine y_gno rfl rfl rfl rfl ?_
    refine y_gno rfl rfl rfl rfl ?_
    refine y_gno rfl rfl rfl rfl ?_
    refine y_gno rfl rfl rfl rfl ?_
    refine y_gno rfl rfl rfl rfl ?_
    refine y_gno rfl rfl rfl rfl ?_
    refine y_k (.bool false : Value) w_36 rfl rfl rfl (by kernel_rfl) ?_
    refine y_k (.bool false : Value) w_36 rfl rfl rfl (by kernel_rfl) ?_
    refine y_gno rfl rfl rfl rfl ?_
    refine y_gno rfl rfl rfl rfl ?_
    refine y_gno rfl rfl rfl rfl ?_
    refine y_gno rfl rfl rfl rfl ?_
    refine y_gno rfl rfl rfl rfl ?_
    refine y_gno rfl rfl rfl rfl ?_
    refine y_k (.bool false : Value) w_36 rfl rfl rfl (by kernel_rfl) ?_
    refine y_k (.bool false : Value) w_36 rfl rfl rfl (by kernel_rfl) ?_
    refine y_gno rfl rfl rfl rfl ?_
    refine y_gno rfl rfl rfl rfl ?_
    refine y_gno rfl rfl rfl rfl ?_
    refine y_gno rfl rfl rfl rfl ?_
    refine y_gno rfl rfl rfl rfl ?_
    refine y_gno rfl rfl rfl rfl ?_
    refine y_gno rfl rfl rfl rfl ?_
    refine y_gno rfl rfl rfl rfl ?_
    refine y_gno rfl rfl rfl rfl ?_
    refine y_gno rfl rfl rfl rfl ?_
    refine y_gno rfl rfl rfl rfl ?_
    refine y_gno rfl rfl rfl rfl ?_
    refine y_k (.bool false : Value) w_36 rfl rfl rfl (by kernel_rfl) ?_
    refine y_k (.bool false : Value) w_36 rfl rfl rfl (by kernel_rfl) ?_
    refine y_gno rfl rfl rfl rfl ?_
    refine y_gno rfl rfl rfl rfl ?_
    refine y_gno rfl rfl rfl rfl ?_
    refine y_gno rfl rfl rfl rfl ?_
    refine y_gno rfl rfl rfl rfl ?_
    refine y_k (.bool false : Value) w_36 rfl rfl rfl (by kernel_rfl) ?_
    refine y_k (.bool false : Value) w_36 rfl rfl rfl (by kernel_rfl) ?_
    refine y_nil ?_
    exact y_then (hjK30 _ false w_36 rfl rfl rfl rfl h)

end Go.Proofs.YtdeficpjcnhdkaaDoor
