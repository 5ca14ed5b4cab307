/- Printed by gen.py (own program, wip/): for each Go function a predicate transformer and its soundness. -/
import Derived.Test.YtdeficpjcnhdkaaDoorProg
import Derived.Test.YtdeficpjcnhdkaaDoorST
namespace Go.Proofs.YtdeficpjcnhdkaaDoor
open Go Go.RowKit Go.Proofs.YtdeficpjcnhdkaaDoor.SX
set_option linter.unusedVariables false

/-- internal/strconv.small -/
def F70 (i0_1 : Int) (K : ByteArray → World → Prop) (w : World) : Prop :=
  ((i0_1 < 10 →
  ∃ (t8_2 : ByteArray), (Instr.sliceAt 9 (.string ((ByteArray.mk #[48, 49, 50, 51, 52, 53, 54, 55, 56, 57, 97, 98, 99, 100, 101, 102, 103, 104, 105, 106, 107, 108, 109, 110, 111, 112, 113, 114, 115, 116, 117, 118, 119, 120, 121, 122])) : Value) (some (.int .i64 i0_1 : Value)) (some (.int .i64 (IntKind.i64.wrap (i0_1 + 1)) : Value)) none).run Tryd.prog w = .ok (.string t8_2 : Value) w ∧
  K t8_2 w) ∧
  (¬ (i0_1 < 10) →
  ∃ (t14_3 : ByteArray), (Instr.sliceAt 9 (.string ((ByteArray.mk #[48, 48, 48, 49, 48, 50, 48, 51, 48, 52, 48, 53, 48, 54, 48, 55, 48, 56, 48, 57, 49, 48, 49, 49, 49, 50, 49, 51, 49, 52, 49, 53, 49, 54, 49, 55, 49, 56, 49, 57, 50, 48, 50, 49, 50, 50, 50, 51, 50, 52, 50, 53, 50, 54, 50, 55, 50, 56, 50, 57, 51, 48, 51, 49, 51, 50, 51, 51, 51, 52, 51, 53, 51, 54, 51, 55, 51, 56, 51, 57, 52, 48, 52, 49, 52, 50, 52, 51, 52, 52, 52, 53, 52, 54, 52, 55, 52, 56, 52, 57, 53, 48, 53, 49, 53, 50, 53, 51, 53, 52, 53, 53, 53, 54, 53, 55, 53, 56, 53, 57, 54, 48, 54, 49, 54, 50, 54, 51, 54, 52, 54, 53, 54, 54, 54, 55, 54, 56, 54, 57, 55, 48, 55, 49, 55, 50, 55, 51, 55, 52, 55, 53, 55, 54, 55, 55, 55, 56, 55, 57, 56, 48, 56, 49, 56, 50, 56, 51, 56, 52, 56, 53, 56, 54, 56, 55, 56, 56, 56, 57, 57, 48, 57, 49, 57, 50, 57, 51, 57, 52, 57, 53, 57, 54, 57, 55, 57, 56, 57, 57])) : Value) (some (.int .i64 (IntKind.i64.wrap (i0_1 * 2)) : Value)) (some (.int .i64 (IntKind.i64.wrap ((IntKind.i64.wrap (i0_1 * 2)) + 2)) : Value)) none).run Tryd.prog w = .ok (.string t14_3 : Value) w ∧
  K t14_3 w))
set_option maxHeartbeats 4000000 in
set_option maxRecDepth 20000 in
theorem F70_sound (i0_1 : Int) (K : ByteArray → World → Prop) (w : World) (h : F70 i0_1 K w) :
    Calls Tryd.prog 70 #[.int .i64 i0_1] w (fun e w1 => ∃ (r0 : ByteArray), e = .returned (.string r0 : Value) ∧ K r0 w1) := by
  unfold F70 at h
  refine y_enter (n := 15) (args := [.int .i64 i0_1]) Tryd.func70 rfl rfl rfl fun Q0 hQ0 => ?_
  refine y_seq fun K1 hK1 => ?_
  refine y_region ?_
  refine y_k (.string ((ByteArray.mk #[])) : Value) w rfl rfl rfl (by kernel_rfl) ?_
  refine y_nil ?_
  refine y_then (hK1 _ _ ?_)
  refine y_seq fun K2 hK2 => ?_
  refine y_seq fun K3 hK3 => ?_
  refine y_region ?_
  refine y_k (.int .i64 i0_1 : Value) w rfl rfl rfl (by kernel_rfl) ?_
  refine y_k (.bool (decide (i0_1 < 10)) : Value) w rfl rfl rfl (by kernel_rfl) ?_
  refine y_nil ?_
  refine y_then (hK3 _ _ ?_)
  refine y_cond (decide (i0_1 < 10)) rfl rfl (fun hb8 => ?_) (fun hb8 => ?_)
  · replace h := h.1 (of_decide_eq_true hb8)
    refine y_seq fun K4 hK4 => ?_
    refine y_region ?_
    refine y_k (.int .i64 i0_1 : Value) w rfl rfl rfl (by kernel_rfl) ?_
    refine y_k (.int .i64 i0_1 : Value) w rfl rfl rfl (by kernel_rfl) ?_
    refine y_k (.int .i64 (IntKind.i64.wrap (i0_1 + 1)) : Value) w rfl rfl rfl (by kernel_rfl) ?_
    obtain ⟨t8_2, hx5, h⟩ := h
    refine y_v (s := Instr.sliceAt 9 (.string ((ByteArray.mk #[48, 49, 50, 51, 52, 53, 54, 55, 56, 57, 97, 98, 99, 100, 101, 102, 103, 104, 105, 106, 107, 108, 109, 110, 111, 112, 113, 114, 115, 116, 117, 118, 119, 120, 121, 122])) : Value) (some (.int .i64 i0_1 : Value)) (some (.int .i64 (IntKind.i64.wrap (i0_1 + 1)) : Value)) none) rfl rfl rfl (by kernel_rfl) (hx5) ?_
    refine y_k (.string t8_2 : Value) w rfl rfl rfl (by kernel_rfl) ?_
    refine y_nil ?_
    refine y_then (hK4 _ _ ?_)
    refine y_ret ?_
    repeat (first | refine e_then_r ?_ | refine e_block_r ?_)
    exact (hQ0 _ _ _ (res1 (v := (.string t8_2 : Value)) rfl rfl rfl) ⟨_, rfl, h⟩).1
  · replace h := h.2 (of_decide_eq_false hb8)
    refine y_skip ?_
    refine y_then (hK2 _ _ ?_)
    refine y_seq fun K6 hK6 => ?_
    refine y_region ?_
    refine y_k (.int .i64 i0_1 : Value) w rfl rfl rfl (by kernel_rfl) ?_
    refine y_k (.int .i64 (IntKind.i64.wrap (i0_1 * 2)) : Value) w rfl rfl rfl (by kernel_rfl) ?_
    refine y_k (.int .i64 i0_1 : Value) w rfl rfl rfl (by kernel_rfl) ?_
    refine y_k (.int .i64 (IntKind.i64.wrap (i0_1 * 2)) : Value) w rfl rfl rfl (by kernel_rfl) ?_
    refine y_k (.int .i64 (IntKind.i64.wrap ((IntKind.i64.wrap (i0_1 * 2)) + 2)) : Value) w rfl rfl rfl (by kernel_rfl) ?_
    obtain ⟨t14_3, hx7, h⟩ := h
    refine y_v (s := Instr.sliceAt 9 (.string ((ByteArray.mk #[48, 48, 48, 49, 48, 50, 48, 51, 48, 52, 48, 53, 48, 54, 48, 55, 48, 56, 48, 57, 49, 48, 49, 49, 49, 50, 49, 51, 49, 52, 49, 53, 49, 54, 49, 55, 49, 56, 49, 57, 50, 48, 50, 49, 50, 50, 50, 51, 50, 52, 50, 53, 50, 54, 50, 55, 50, 56, 50, 57, 51, 48, 51, 49, 51, 50, 51, 51, 51, 52, 51, 53, 51, 54, 51, 55, 51, 56, 51, 57, 52, 48, 52, 49, 52, 50, 52, 51, 52, 52, 52, 53, 52, 54, 52, 55, 52, 56, 52, 57, 53, 48, 53, 49, 53, 50, 53, 51, 53, 52, 53, 53, 53, 54, 53, 55, 53, 56, 53, 57, 54, 48, 54, 49, 54, 50, 54, 51, 54, 52, 54, 53, 54, 54, 54, 55, 54, 56, 54, 57, 55, 48, 55, 49, 55, 50, 55, 51, 55, 52, 55, 53, 55, 54, 55, 55, 55, 56, 55, 57, 56, 48, 56, 49, 56, 50, 56, 51, 56, 52, 56, 53, 56, 54, 56, 55, 56, 56, 56, 57, 57, 48, 57, 49, 57, 50, 57, 51, 57, 52, 57, 53, 57, 54, 57, 55, 57, 56, 57, 57])) : Value) (some (.int .i64 (IntKind.i64.wrap (i0_1 * 2)) : Value)) (some (.int .i64 (IntKind.i64.wrap ((IntKind.i64.wrap (i0_1 * 2)) + 2)) : Value)) none) rfl rfl rfl (by kernel_rfl) (hx7) ?_
    refine y_k (.string t14_3 : Value) w rfl rfl rfl (by kernel_rfl) ?_
    refine y_nil ?_
    refine y_then (hK6 _ _ ?_)
    refine y_ret ?_
    repeat (first | refine e_then_r ?_ | refine e_block_r ?_)
    exact (hQ0 _ _ _ (res1 (v := (.string t14_3 : Value)) rfl rfl rfl) ⟨_, rfl, h⟩).1

def F49_j1 (i0_1 : Int) (K : ByteArray → World → Prop) (w : World) (u6_6 : Int) (w_7 : World) : Prop :=
  Calls Tryd.prog 71 #[.int .u64 u6_6] w_7 fun e w_9 => ∃ (t27_8 : Int), e = .returned (.int .i64 t27_8 : Value) ∧
  ∃ (t30_10 : Sl), (Instr.sliceAt 139 (.pointer (some (⟨w.heap.size, 0, none⟩ : Addr)) : Value) (some (.int .i64 1 : Value)) (some (.int .i64 (IntKind.i64.wrap (1 + t27_8)) : Value)) none).run Tryd.prog w_9 = .ok (.slice t30_10.a t30_10.n t30_10.c : Value) w_9 ∧
  Calls Tryd.prog 72 #[.slice t30_10.a t30_10.n t30_10.c, .int .u64 u6_6] w_9 fun e w_11 => e = .returned (.tuple #[] : Value) ∧
  ((i0_1 < 0 →
  HasCell w_11 (⟨w.heap.size, 0, none⟩ : Addr) ∧ ∀ (w_12 : World), w_12 = w_11.setCell (⟨w.heap.size, 0, none⟩ : Addr) (.int .u8 45 : Value) →
  ∃ (t38_13 : Sl), (Instr.sliceAt 139 (.pointer (some (⟨w.heap.size, 0, none⟩ : Addr)) : Value) none (some (.int .i64 (IntKind.i64.wrap (1 + t27_8)) : Value)) none).run Tryd.prog w_12 = .ok (.slice t38_13.a t38_13.n t38_13.c : Value) w_12 ∧
  ∃ (t39_14 : ByteArray), (convert 48 9 (.slice t38_13.a t38_13.n t38_13.c : Value)).run Tryd.prog w_12 = .ok (.string t39_14 : Value) w_12 ∧
  K t39_14 w_12) ∧
  (¬ (i0_1 < 0) →
  ∃ (t42_15 : Sl), (Instr.sliceAt 139 (.pointer (some (⟨w.heap.size, 0, none⟩ : Addr)) : Value) (some (.int .i64 1 : Value)) (some (.int .i64 (IntKind.i64.wrap (1 + t27_8)) : Value)) none).run Tryd.prog w_11 = .ok (.slice t42_15.a t42_15.n t42_15.c : Value) w_11 ∧
  ∃ (t43_16 : ByteArray), (convert 48 9 (.slice t42_15.a t42_15.n t42_15.c : Value)).run Tryd.prog w_11 = .ok (.string t43_16 : Value) w_11 ∧
  K t43_16 w_11))
def F49_j2 (i0_1 : Int) (K : ByteArray → World → Prop) (w : World) (u6_18 : Int) (w_19 : World) : Prop :=
  Calls Tryd.prog 71 #[.int .u64 u6_18] w_19 fun e w_21 => ∃ (t27_20 : Int), e = .returned (.int .i64 t27_20 : Value) ∧
  ∃ (t30_22 : Sl), (Instr.sliceAt 139 (.pointer (some (⟨w.heap.size, 0, none⟩ : Addr)) : Value) (some (.int .i64 1 : Value)) (some (.int .i64 (IntKind.i64.wrap (1 + t27_20)) : Value)) none).run Tryd.prog w_21 = .ok (.slice t30_22.a t30_22.n t30_22.c : Value) w_21 ∧
  Calls Tryd.prog 72 #[.slice t30_22.a t30_22.n t30_22.c, .int .u64 u6_18] w_21 fun e w_23 => e = .returned (.tuple #[] : Value) ∧
  ((i0_1 < 0 →
  HasCell w_23 (⟨w.heap.size, 0, none⟩ : Addr) ∧ ∀ (w_24 : World), w_24 = w_23.setCell (⟨w.heap.size, 0, none⟩ : Addr) (.int .u8 45 : Value) →
  ∃ (t38_25 : Sl), (Instr.sliceAt 139 (.pointer (some (⟨w.heap.size, 0, none⟩ : Addr)) : Value) none (some (.int .i64 (IntKind.i64.wrap (1 + t27_20)) : Value)) none).run Tryd.prog w_24 = .ok (.slice t38_25.a t38_25.n t38_25.c : Value) w_24 ∧
  ∃ (t39_26 : ByteArray), (convert 48 9 (.slice t38_25.a t38_25.n t38_25.c : Value)).run Tryd.prog w_24 = .ok (.string t39_26 : Value) w_24 ∧
  K t39_26 w_24) ∧
  (¬ (i0_1 < 0) →
  ∃ (t42_27 : Sl), (Instr.sliceAt 139 (.pointer (some (⟨w.heap.size, 0, none⟩ : Addr)) : Value) (some (.int .i64 1 : Value)) (some (.int .i64 (IntKind.i64.wrap (1 + t27_20)) : Value)) none).run Tryd.prog w_23 = .ok (.slice t42_27.a t42_27.n t42_27.c : Value) w_23 ∧
  ∃ (t43_28 : ByteArray), (convert 48 9 (.slice t42_27.a t42_27.n t42_27.c : Value)).run Tryd.prog w_23 = .ok (.string t43_28 : Value) w_23 ∧
  K t43_28 w_23))
/-- internal/strconv.FormatInt -/
def F49 (i0_1 : Int) (base1_2 : Int) (K : ByteArray → World → Prop) (w : World) : Prop :=
  ((base1_2 = 10 →
  ((0 ≤ i0_1 →
  ((i0_1 < 100 →
  Calls Tryd.prog 70 #[.int .i64 i0_1] w fun e w_4 => ∃ (t19_3 : ByteArray), e = .returned (.string t19_3 : Value) ∧
  K t19_3 w_4) ∧
  (¬ (i0_1 < 100) →
  ∀ (w_5 : World), w_5 = w.alloc (.cells #[.int .u8 0, .int .u8 0, .int .u8 0, .int .u8 0, .int .u8 0, .int .u8 0, .int .u8 0, .int .u8 0, .int .u8 0, .int .u8 0, .int .u8 0, .int .u8 0, .int .u8 0, .int .u8 0, .int .u8 0, .int .u8 0, .int .u8 0, .int .u8 0, .int .u8 0, .int .u8 0, .int .u8 0, .int .u8 0, .int .u8 0, .int .u8 0] 139) →
  ((i0_1 < 0 →
  F49_j1 i0_1 K w (IntKind.u64.wrap (0 - (IntKind.u64.wrap i0_1))) w_5) ∧
  (¬ (i0_1 < 0) →
  F49_j1 i0_1 K w (IntKind.u64.wrap i0_1) w_5))))) ∧
  (¬ (0 ≤ i0_1) →
  ∀ (w_17 : World), w_17 = w.alloc (.cells #[.int .u8 0, .int .u8 0, .int .u8 0, .int .u8 0, .int .u8 0, .int .u8 0, .int .u8 0, .int .u8 0, .int .u8 0, .int .u8 0, .int .u8 0, .int .u8 0, .int .u8 0, .int .u8 0, .int .u8 0, .int .u8 0, .int .u8 0, .int .u8 0, .int .u8 0, .int .u8 0, .int .u8 0, .int .u8 0, .int .u8 0, .int .u8 0] 139) →
  ((i0_1 < 0 →
  F49_j2 i0_1 K w (IntKind.u64.wrap (0 - (IntKind.u64.wrap i0_1))) w_17) ∧
  (¬ (i0_1 < 0) →
  F49_j2 i0_1 K w (IntKind.u64.wrap i0_1) w_17))))) ∧
  (¬ base1_2 = 10 →
  Calls Tryd.prog 73 #[.slice none 0 0, .int .u64 (IntKind.u64.wrap i0_1), .int .i64 base1_2, .bool (decide (i0_1 < 0)), .bool false] w fun e w_31 => ∃ (t50_29 : Sl), ∃ (t50_30 : ByteArray), e = .returned (.tuple #[.slice t50_29.a t50_29.n t50_29.c, .string t50_30] : Value) ∧
  K t50_30 w_31))
set_option maxHeartbeats 4000000 in
set_option maxRecDepth 20000 in
theorem F49_sound (i0_1 : Int) (base1_2 : Int) (K : ByteArray → World → Prop) (w : World) (h : F49 i0_1 base1_2 K w) :
    Calls Tryd.prog 49 #[.int .i64 i0_1, .int .i64 base1_2] w (fun e w1 => ∃ (r0 : ByteArray), e = .returned (.string r0 : Value) ∧ K r0 w1) := by
  unfold F49 at h
  refine y_enter (n := 54) (args := [.int .i64 i0_1, .int .i64 base1_2]) Tryd.func49 rfl rfl rfl fun Q0 hQ0 => ?_
  refine y_seq fun K1 hK1 => ?_
  refine y_region ?_
  refine y_k (.string ((ByteArray.mk #[])) : Value) w rfl rfl rfl (by kernel_rfl) ?_
  refine y_nil ?_
  refine y_then (hK1 _ _ ?_)
  refine y_seq fun K2 hK2 => ?_
  refine y_seq fun K3 hK3 => ?_
  refine y_region ?_
  refine y_k (.int .i64 base1_2 : Value) w rfl rfl rfl (by kernel_rfl) ?_
  refine y_k (.bool ((base1_2 == 10)) : Value) w rfl rfl rfl (by kernel_rfl) ?_
  refine y_nil ?_
  refine y_then (hK3 _ _ ?_)
  refine y_cond ((base1_2 == 10)) rfl rfl (fun hb51 => ?_) (fun hb51 => ?_)
  · replace h := h.1 (eq_of_beq hb51)
    refine y_seq fun K4 hK4 => ?_
    refine y_seq fun K5 hK5 => ?_
    refine y_region ?_
    refine y_k (.int .i64 i0_1 : Value) w rfl rfl rfl (by kernel_rfl) ?_
    refine y_k (.bool (decide (0 ≤ i0_1)) : Value) w rfl rfl rfl (by kernel_rfl) ?_
    refine y_k (.bool (decide (0 ≤ i0_1)) : Value) w rfl rfl rfl (by kernel_rfl) ?_
    refine y_fork (decide (0 ≤ i0_1)) (fun hb6 => ?_) (fun hb6 => ?_)
    · replace h := h.1 (of_decide_eq_true hb6)
      refine y_frame (upd_id (i := 14) (v := .bool true) rfl (congrArg Value.bool hb6)) ?_
      refine y_gyes rfl rfl rfl ?_
      refine y_k (.int .i64 i0_1 : Value) w rfl rfl rfl (by kernel_rfl) ?_
      refine y_gyes rfl rfl rfl ?_
      refine y_k (.bool (decide (i0_1 < 100)) : Value) w rfl rfl rfl (by kernel_rfl) ?_
      refine y_k (.bool (decide (i0_1 < 100)) : Value) w rfl rfl rfl (by kernel_rfl) ?_
      refine y_nil ?_
      refine y_then (hK5 _ _ ?_)
      refine y_cond (decide (i0_1 < 100)) rfl rfl (fun hb28 => ?_) (fun hb28 => ?_)
      · replace h := h.1 (of_decide_eq_true hb28)
        refine y_seq fun K7 hK7 => ?_
        refine y_region ?_
        refine y_k (.int .i64 i0_1 : Value) w rfl rfl rfl (by kernel_rfl) ?_
        refine y_call rfl rfl rfl (by kernel_rfl) (h.mono ?_)
        rintro _ w_4 ⟨t19_3, rfl, h⟩
        refine ⟨_, rfl, ?_⟩
        refine y_k (.string t19_3 : Value) w_4 rfl rfl rfl (by kernel_rfl) ?_
        refine y_nil ?_
        refine y_then (hK7 _ _ ?_)
        refine y_ret ?_
        repeat (first | refine e_then_r ?_ | refine e_block_r ?_)
        exact (hQ0 _ _ _ (res1 (v := (.string t19_3 : Value)) rfl rfl rfl) ⟨_, rfl, h⟩).1
      · replace h := h.2 (of_decide_eq_false hb28)
        refine y_skip ?_
        refine y_then (hK4 _ _ ?_)
        refine y_seq fun K8 hK8 => ?_
        refine y_region ?_
        refine y_k (.pointer (some (⟨w.heap.size, 0, none⟩ : Addr)) : Value) (w.alloc (.cells #[.int .u8 0, .int .u8 0, .int .u8 0, .int .u8 0, .int .u8 0, .int .u8 0, .int .u8 0, .int .u8 0, .int .u8 0, .int .u8 0, .int .u8 0, .int .u8 0, .int .u8 0, .int .u8 0, .int .u8 0, .int .u8 0, .int .u8 0, .int .u8 0, .int .u8 0, .int .u8 0, .int .u8 0, .int .u8 0, .int .u8 0, .int .u8 0] 139)) rfl rfl rfl (by kernel_rfl) ?_
        replace h := h _ rfl
        generalize w.alloc (.cells #[.int .u8 0, .int .u8 0, .int .u8 0, .int .u8 0, .int .u8 0, .int .u8 0, .int .u8 0, .int .u8 0, .int .u8 0, .int .u8 0, .int .u8 0, .int .u8 0, .int .u8 0, .int .u8 0, .int .u8 0, .int .u8 0, .int .u8 0, .int .u8 0, .int .u8 0, .int .u8 0, .int .u8 0, .int .u8 0, .int .u8 0, .int .u8 0] 139) = w_5 at h ⊢
        refine y_nil ?_
        refine y_then (hK8 _ _ ?_)
        refine y_seq fun K9 hK9 => ?_
        refine y_region ?_
        refine y_k (.int .i64 i0_1 : Value) w_5 rfl rfl rfl (by kernel_rfl) ?_
        refine y_k (.int .u64 (IntKind.u64.wrap i0_1) : Value) w_5 rfl rfl rfl (by kernel_rfl) ?_
        refine y_k (.int .u64 (IntKind.u64.wrap i0_1) : Value) w_5 rfl rfl rfl (by kernel_rfl) ?_
        refine y_nil ?_
        refine y_then (hK9 _ _ ?_)
        refine y_seq fun K10 hK10 => ?_
        have hjK10 : ∀ (f : Fr) (u6_6 : Int) (w_7 : World), f 0 = (.int .i64 i0_1 : Value) → f 5 = (.pointer (some (⟨w.heap.size, 0, none⟩ : Addr)) : Value) → f 6 = (.int .u64 u6_6 : Value) → F49_j1 i0_1 K w u6_6 w_7 → WK K10 54 f w_7 := by
          intro f u6_6 w_7 e0 e5 e6 h
          refine y_atf (upd_id (upd_id (upd_id rfl e0) e5) e6) ?_
          clear e0 e5 e6
          unfold F49_j1 at h
          refine hK10 _ _ ?_
          refine y_seq fun K12 hK12 => ?_
          refine y_region ?_
          refine y_k (.int .u64 u6_6 : Value) w_7 rfl rfl rfl (by kernel_rfl) ?_
          refine y_call rfl rfl rfl (by kernel_rfl) (h.mono ?_)
          rintro _ w_9 ⟨t27_8, rfl, h⟩
          refine ⟨_, rfl, ?_⟩
          refine y_k (.int .i64 t27_8 : Value) w_9 rfl rfl rfl (by kernel_rfl) ?_
          refine y_nil ?_
          refine y_then (hK12 _ _ ?_)
          refine y_seq fun K13 hK13 => ?_
          refine y_region ?_
          refine y_k (.int .i64 t27_8 : Value) w_9 rfl rfl rfl (by kernel_rfl) ?_
          refine y_k (.int .i64 (IntKind.i64.wrap (1 + t27_8)) : Value) w_9 rfl rfl rfl (by kernel_rfl) ?_
          obtain ⟨t30_10, hx14, h⟩ := h
          refine y_v (s := Instr.sliceAt 139 (.pointer (some (⟨w.heap.size, 0, none⟩ : Addr)) : Value) (some (.int .i64 1 : Value)) (some (.int .i64 (IntKind.i64.wrap (1 + t27_8)) : Value)) none) rfl rfl rfl (by kernel_rfl) (hx14) ?_
          refine y_k (.int .u64 u6_6 : Value) w_9 rfl rfl rfl (by kernel_rfl) ?_
          refine y_call rfl rfl rfl (by kernel_rfl) (h.mono ?_)
          rintro _ w_11 ⟨rfl, h⟩
          refine ⟨_, rfl, ?_⟩
          refine y_nil ?_
          refine y_then (hK13 _ _ ?_)
          refine y_seq fun K15 hK15 => ?_
          refine y_seq fun K16 hK16 => ?_
          refine y_region ?_
          refine y_k (.int .i64 i0_1 : Value) w_11 rfl rfl rfl (by kernel_rfl) ?_
          refine y_k (.bool (decide (i0_1 < 0)) : Value) w_11 rfl rfl rfl (by kernel_rfl) ?_
          refine y_nil ?_
          refine y_then (hK16 _ _ ?_)
          refine y_cond (decide (i0_1 < 0)) rfl rfl (fun hb26 => ?_) (fun hb26 => ?_)
          · replace h := h.1 (of_decide_eq_true hb26)
            refine y_seq fun K17 hK17 => ?_
            refine y_region ?_
            refine y_k (.pointer (some (⟨w.heap.size, 0, none⟩ : Addr)) : Value) w_11 rfl rfl rfl (by kernel_rfl) ?_
            obtain ⟨hx19, h⟩ := h
            replace h := h _ rfl
            refine y_u (s := Instr.storeAt 5 (.pointer (some (⟨w.heap.size, 0, none⟩ : Addr))) (.int .u8 45 : Value)) rfl rfl (by kernel_rfl) (rn_store1 (by kernel_rfl) rfl hx19) ?_
            generalize w_11.setCell (⟨w.heap.size, 0, none⟩ : Addr) (.int .u8 45 : Value) = w_12 at h ⊢
            refine y_nil ?_
            refine y_then (hK17 _ _ ?_)
            refine y_seq fun K20 hK20 => ?_
            refine y_region ?_
            refine y_k (.int .i64 t27_8 : Value) w_12 rfl rfl rfl (by kernel_rfl) ?_
            refine y_k (.int .i64 (IntKind.i64.wrap (1 + t27_8)) : Value) w_12 rfl rfl rfl (by kernel_rfl) ?_
            obtain ⟨t38_13, hx21, h⟩ := h
            refine y_v (s := Instr.sliceAt 139 (.pointer (some (⟨w.heap.size, 0, none⟩ : Addr)) : Value) none (some (.int .i64 (IntKind.i64.wrap (1 + t27_8)) : Value)) none) rfl rfl rfl (by kernel_rfl) (hx21) ?_
            obtain ⟨t39_14, hx22, h⟩ := h
            refine y_v (s := convert 48 9 (.slice t38_13.a t38_13.n t38_13.c : Value)) rfl rfl rfl (by kernel_rfl) (hx22) ?_
            refine y_k (.string t39_14 : Value) w_12 rfl rfl rfl (by kernel_rfl) ?_
            refine y_nil ?_
            refine y_then (hK20 _ _ ?_)
            refine y_ret ?_
            repeat (first | refine e_then_r ?_ | refine e_block_r ?_)
            exact (hQ0 _ _ _ (res1 (v := (.string t39_14 : Value)) rfl rfl rfl) ⟨_, rfl, h⟩).1
          · replace h := h.2 (of_decide_eq_false hb26)
            refine y_skip ?_
            refine y_then (hK15 _ _ ?_)
            refine y_seq fun K23 hK23 => ?_
            refine y_region ?_
            refine y_k (.int .i64 t27_8 : Value) w_11 rfl rfl rfl (by kernel_rfl) ?_
            refine y_k (.int .i64 (IntKind.i64.wrap (1 + t27_8)) : Value) w_11 rfl rfl rfl (by kernel_rfl) ?_
            obtain ⟨t42_15, hx24, h⟩ := h
            refine y_v (s := Instr.sliceAt 139 (.pointer (some (⟨w.heap.size, 0, none⟩ : Addr)) : Value) (some (.int .i64 1 : Value)) (some (.int .i64 (IntKind.i64.wrap (1 + t27_8)) : Value)) none) rfl rfl rfl (by kernel_rfl) (hx24) ?_
            obtain ⟨t43_16, hx25, h⟩ := h
            refine y_v (s := convert 48 9 (.slice t42_15.a t42_15.n t42_15.c : Value)) rfl rfl rfl (by kernel_rfl) (hx25) ?_
            refine y_k (.string t43_16 : Value) w_11 rfl rfl rfl (by kernel_rfl) ?_
            refine y_nil ?_
            refine y_then (hK23 _ _ ?_)
            refine y_ret ?_
            repeat (first | refine e_then_r ?_ | refine e_block_r ?_)
            exact (hQ0 _ _ _ (res1 (v := (.string t43_16 : Value)) rfl rfl rfl) ⟨_, rfl, h⟩).1
        refine y_seq fun K11 hK11 => ?_
        refine y_region ?_
        refine y_k (.int .i64 i0_1 : Value) w_5 rfl rfl rfl (by kernel_rfl) ?_
        refine y_k (.bool (decide (i0_1 < 0)) : Value) w_5 rfl rfl rfl (by kernel_rfl) ?_
        refine y_nil ?_
        refine y_then (hK11 _ _ ?_)
        refine y_cond (decide (i0_1 < 0)) rfl rfl (fun hb27 => ?_) (fun hb27 => ?_)
        · replace h := h.1 (of_decide_eq_true hb27)
          refine y_region ?_
          refine y_k (.int .u64 (IntKind.u64.wrap i0_1) : Value) w_5 rfl rfl rfl (by kernel_rfl) ?_
          refine y_k (.int .u64 (IntKind.u64.wrap (0 - (IntKind.u64.wrap i0_1))) : Value) w_5 rfl rfl rfl (by kernel_rfl) ?_
          refine y_k (.int .u64 (IntKind.u64.wrap (0 - (IntKind.u64.wrap i0_1))) : Value) w_5 rfl rfl rfl (by kernel_rfl) ?_
          refine y_nil ?_
          exact y_then (hjK10 _ (IntKind.u64.wrap (0 - (IntKind.u64.wrap i0_1))) w_5 rfl rfl rfl h)
        · replace h := h.2 (of_decide_eq_false hb27)
          refine y_skip ?_
          exact y_then (hjK10 _ (IntKind.u64.wrap i0_1) w_5 rfl rfl rfl h)
    · replace h := h.2 (of_decide_eq_false hb6)
      refine y_frame (upd_id (i := 14) (v := .bool false) rfl (congrArg Value.bool hb6)) ?_
      refine y_gno rfl rfl rfl rfl ?_
      refine y_gno rfl rfl rfl rfl ?_
      refine y_k (.bool false : Value) w rfl rfl rfl (by kernel_rfl) ?_
      refine y_nil ?_
      refine y_then (hK5 _ _ ?_)
      refine y_cond_f rfl rfl ?_
      refine y_skip ?_
      refine y_then (hK4 _ _ ?_)
      refine y_seq fun K29 hK29 => ?_
      refine y_region ?_
      refine y_k (.pointer (some (⟨w.heap.size, 0, none⟩ : Addr)) : Value) (w.alloc (.cells #[.int .u8 0, .int .u8 0, .int .u8 0, .int .u8 0, .int .u8 0, .int .u8 0, .int .u8 0, .int .u8 0, .int .u8 0, .int .u8 0, .int .u8 0, .int .u8 0, .int .u8 0, .int .u8 0, .int .u8 0, .int .u8 0, .int .u8 0, .int .u8 0, .int .u8 0, .int .u8 0, .int .u8 0, .int .u8 0, .int .u8 0, .int .u8 0] 139)) rfl rfl rfl (by kernel_rfl) ?_
      replace h := h _ rfl
      generalize w.alloc (.cells #[.int .u8 0, .int .u8 0, .int .u8 0, .int .u8 0, .int .u8 0, .int .u8 0, .int .u8 0, .int .u8 0, .int .u8 0, .int .u8 0, .int .u8 0, .int .u8 0, .int .u8 0, .int .u8 0, .int .u8 0, .int .u8 0, .int .u8 0, .int .u8 0, .int .u8 0, .int .u8 0, .int .u8 0, .int .u8 0, .int .u8 0, .int .u8 0] 139) = w_17 at h ⊢
      refine y_nil ?_
      refine y_then (hK29 _ _ ?_)
      refine y_seq fun K30 hK30 => ?_
      refine y_region ?_
      refine y_k (.int .i64 i0_1 : Value) w_17 rfl rfl rfl (by kernel_rfl) ?_
      refine y_k (.int .u64 (IntKind.u64.wrap i0_1) : Value) w_17 rfl rfl rfl (by kernel_rfl) ?_
      refine y_k (.int .u64 (IntKind.u64.wrap i0_1) : Value) w_17 rfl rfl rfl (by kernel_rfl) ?_
      refine y_nil ?_
      refine y_then (hK30 _ _ ?_)
      refine y_seq fun K31 hK31 => ?_
      have hjK31 : ∀ (f : Fr) (u6_18 : Int) (w_19 : World), f 0 = (.int .i64 i0_1 : Value) → f 5 = (.pointer (some (⟨w.heap.size, 0, none⟩ : Addr)) : Value) → f 6 = (.int .u64 u6_18 : Value) → F49_j2 i0_1 K w u6_18 w_19 → WK K31 54 f w_19 := by
        intro f u6_18 w_19 e0 e5 e6 h
        refine y_atf (upd_id (upd_id (upd_id rfl e0) e5) e6) ?_
        clear e0 e5 e6
        unfold F49_j2 at h
        refine hK31 _ _ ?_
        refine y_seq fun K33 hK33 => ?_
        refine y_region ?_
        refine y_k (.int .u64 u6_18 : Value) w_19 rfl rfl rfl (by kernel_rfl) ?_
        refine y_call rfl rfl rfl (by kernel_rfl) (h.mono ?_)
        rintro _ w_21 ⟨t27_20, rfl, h⟩
        refine ⟨_, rfl, ?_⟩
        refine y_k (.int .i64 t27_20 : Value) w_21 rfl rfl rfl (by kernel_rfl) ?_
        refine y_nil ?_
        refine y_then (hK33 _ _ ?_)
        refine y_seq fun K34 hK34 => ?_
        refine y_region ?_
        refine y_k (.int .i64 t27_20 : Value) w_21 rfl rfl rfl (by kernel_rfl) ?_
        refine y_k (.int .i64 (IntKind.i64.wrap (1 + t27_20)) : Value) w_21 rfl rfl rfl (by kernel_rfl) ?_
        obtain ⟨t30_22, hx35, h⟩ := h
        refine y_v (s := Instr.sliceAt 139 (.pointer (some (⟨w.heap.size, 0, none⟩ : Addr)) : Value) (some (.int .i64 1 : Value)) (some (.int .i64 (IntKind.i64.wrap (1 + t27_20)) : Value)) none) rfl rfl rfl (by kernel_rfl) (hx35) ?_
        refine y_k (.int .u64 u6_18 : Value) w_21 rfl rfl rfl (by kernel_rfl) ?_
        refine y_call rfl rfl rfl (by kernel_rfl) (h.mono ?_)
        rintro _ w_23 ⟨rfl, h⟩
        refine ⟨_, rfl, ?_⟩
        refine y_nil ?_
        refine y_then (hK34 _ _ ?_)
        refine y_seq fun K36 hK36 => ?_
        refine y_seq fun K37 hK37 => ?_
        refine y_region ?_
        refine y_k (.int .i64 i0_1 : Value) w_23 rfl rfl rfl (by kernel_rfl) ?_
        refine y_k (.bool (decide (i0_1 < 0)) : Value) w_23 rfl rfl rfl (by kernel_rfl) ?_
        refine y_nil ?_
        refine y_then (hK37 _ _ ?_)
        refine y_cond (decide (i0_1 < 0)) rfl rfl (fun hb47 => ?_) (fun hb47 => ?_)
        · replace h := h.1 (of_decide_eq_true hb47)
          refine y_seq fun K38 hK38 => ?_
          refine y_region ?_
          refine y_k (.pointer (some (⟨w.heap.size, 0, none⟩ : Addr)) : Value) w_23 rfl rfl rfl (by kernel_rfl) ?_
          obtain ⟨hx40, h⟩ := h
          replace h := h _ rfl
          refine y_u (s := Instr.storeAt 5 (.pointer (some (⟨w.heap.size, 0, none⟩ : Addr))) (.int .u8 45 : Value)) rfl rfl (by kernel_rfl) (rn_store1 (by kernel_rfl) rfl hx40) ?_
          generalize w_23.setCell (⟨w.heap.size, 0, none⟩ : Addr) (.int .u8 45 : Value) = w_24 at h ⊢
          refine y_nil ?_
          refine y_then (hK38 _ _ ?_)
          refine y_seq fun K41 hK41 => ?_
          refine y_region ?_
          refine y_k (.int .i64 t27_20 : Value) w_24 rfl rfl rfl (by kernel_rfl) ?_
          refine y_k (.int .i64 (IntKind.i64.wrap (1 + t27_20)) : Value) w_24 rfl rfl rfl (by kernel_rfl) ?_
          obtain ⟨t38_25, hx42, h⟩ := h
          refine y_v (s := Instr.sliceAt 139 (.pointer (some (⟨w.heap.size, 0, none⟩ : Addr)) : Value) none (some (.int .i64 (IntKind.i64.wrap (1 + t27_20)) : Value)) none) rfl rfl rfl (by kernel_rfl) (hx42) ?_
          obtain ⟨t39_26, hx43, h⟩ := h
          refine y_v (s := convert 48 9 (.slice t38_25.a t38_25.n t38_25.c : Value)) rfl rfl rfl (by kernel_rfl) (hx43) ?_
          refine y_k (.string t39_26 : Value) w_24 rfl rfl rfl (by kernel_rfl) ?_
          refine y_nil ?_
          refine y_then (hK41 _ _ ?_)
          refine y_ret ?_
          repeat (first | refine e_then_r ?_ | refine e_block_r ?_)
          exact (hQ0 _ _ _ (res1 (v := (.string t39_26 : Value)) rfl rfl rfl) ⟨_, rfl, h⟩).1
        · replace h := h.2 (of_decide_eq_false hb47)
          refine y_skip ?_
          refine y_then (hK36 _ _ ?_)
          refine y_seq fun K44 hK44 => ?_
          refine y_region ?_
          refine y_k (.int .i64 t27_20 : Value) w_23 rfl rfl rfl (by kernel_rfl) ?_
          refine y_k (.int .i64 (IntKind.i64.wrap (1 + t27_20)) : Value) w_23 rfl rfl rfl (by kernel_rfl) ?_
          obtain ⟨t42_27, hx45, h⟩ := h
          refine y_v (s := Instr.sliceAt 139 (.pointer (some (⟨w.heap.size, 0, none⟩ : Addr)) : Value) (some (.int .i64 1 : Value)) (some (.int .i64 (IntKind.i64.wrap (1 + t27_20)) : Value)) none) rfl rfl rfl (by kernel_rfl) (hx45) ?_
          obtain ⟨t43_28, hx46, h⟩ := h
          refine y_v (s := convert 48 9 (.slice t42_27.a t42_27.n t42_27.c : Value)) rfl rfl rfl (by kernel_rfl) (hx46) ?_
          refine y_k (.string t43_28 : Value) w_23 rfl rfl rfl (by kernel_rfl) ?_
          refine y_nil ?_
          refine y_then (hK44 _ _ ?_)
          refine y_ret ?_
          repeat (first | refine e_then_r ?_ | refine e_block_r ?_)
          exact (hQ0 _ _ _ (res1 (v := (.string t43_28 : Value)) rfl rfl rfl) ⟨_, rfl, h⟩).1
      refine y_seq fun K32 hK32 => ?_
      refine y_region ?_
      refine y_k (.int .i64 i0_1 : Value) w_17 rfl rfl rfl (by kernel_rfl) ?_
      refine y_k (.bool (decide (i0_1 < 0)) : Value) w_17 rfl rfl rfl (by kernel_rfl) ?_
      refine y_nil ?_
      refine y_then (hK32 _ _ ?_)
      refine y_cond (decide (i0_1 < 0)) rfl rfl (fun hb48 => ?_) (fun hb48 => ?_)
      · replace h := h.1 (of_decide_eq_true hb48)
        refine y_region ?_
        refine y_k (.int .u64 (IntKind.u64.wrap i0_1) : Value) w_17 rfl rfl rfl (by kernel_rfl) ?_
        refine y_k (.int .u64 (IntKind.u64.wrap (0 - (IntKind.u64.wrap i0_1))) : Value) w_17 rfl rfl rfl (by kernel_rfl) ?_
        refine y_k (.int .u64 (IntKind.u64.wrap (0 - (IntKind.u64.wrap i0_1))) : Value) w_17 rfl rfl rfl (by kernel_rfl) ?_
        refine y_nil ?_
        exact y_then (hjK31 _ (IntKind.u64.wrap (0 - (IntKind.u64.wrap i0_1))) w_17 rfl rfl rfl h)
      · replace h := h.2 (of_decide_eq_false hb48)
        refine y_skip ?_
        exact y_then (hjK31 _ (IntKind.u64.wrap i0_1) w_17 rfl rfl rfl h)
  · replace h := h.2 (beq_eq_false_iff_ne.mp hb51)
    refine y_skip ?_
    refine y_then (hK2 _ _ ?_)
    refine y_seq fun K49 hK49 => ?_
    refine y_region ?_
    refine y_k (.int .i64 i0_1 : Value) w rfl rfl rfl (by kernel_rfl) ?_
    refine y_k (.int .u64 (IntKind.u64.wrap i0_1) : Value) w rfl rfl rfl (by kernel_rfl) ?_
    refine y_k (.int .i64 base1_2 : Value) w rfl rfl rfl (by kernel_rfl) ?_
    refine y_k (.int .i64 i0_1 : Value) w rfl rfl rfl (by kernel_rfl) ?_
    refine y_k (.bool (decide (i0_1 < 0)) : Value) w rfl rfl rfl (by kernel_rfl) ?_
    refine y_call rfl rfl rfl (by kernel_rfl) (h.mono ?_)
    rintro _ w_31 ⟨t50_29, t50_30, rfl, h⟩
    refine ⟨_, rfl, ?_⟩
    refine y_k (.tuple #[.slice t50_29.a t50_29.n t50_29.c, .string t50_30] : Value) w_31 rfl rfl rfl (by kernel_rfl) ?_
    refine y_k (.slice t50_29.a t50_29.n t50_29.c : Value) w_31 rfl rfl rfl (by kernel_rfl) ?_
    refine y_k (.string t50_30 : Value) w_31 rfl rfl rfl (by kernel_rfl) ?_
    refine y_k (.slice t50_29.a t50_29.n t50_29.c : Value) w_31 rfl rfl rfl (by kernel_rfl) ?_
    refine y_k (.string t50_30 : Value) w_31 rfl rfl rfl (by kernel_rfl) ?_
    refine y_nil ?_
    refine y_then (hK49 _ _ ?_)
    refine y_seq fun K50 hK50 => ?_
    refine y_region ?_
    refine y_k (.string t50_30 : Value) w_31 rfl rfl rfl (by kernel_rfl) ?_
    refine y_k (.string t50_30 : Value) w_31 rfl rfl rfl (by kernel_rfl) ?_
    refine y_nil ?_
    refine y_then (hK50 _ _ ?_)
    refine y_ret ?_
    repeat (first | refine e_then_r ?_ | refine e_block_r ?_)
    exact (hQ0 _ _ _ (res1 (v := (.string t50_30 : Value)) rfl rfl rfl) ⟨_, rfl, h⟩).1

/-- internal/strconv.Itoa -/
def F21 (i0_1 : Int) (K : ByteArray → World → Prop) (w : World) : Prop :=
  Calls Tryd.prog 49 #[.int .i64 i0_1, .int .i64 10] w fun e w_3 => ∃ (t4_2 : ByteArray), e = .returned (.string t4_2 : Value) ∧
  K t4_2 w_3
set_option maxHeartbeats 4000000 in
set_option maxRecDepth 20000 in
theorem F21_sound (i0_1 : Int) (K : ByteArray → World → Prop) (w : World) (h : F21 i0_1 K w) :
    Calls Tryd.prog 21 #[.int .i64 i0_1] w (fun e w1 => ∃ (r0 : ByteArray), e = .returned (.string r0 : Value) ∧ K r0 w1) := by
  unfold F21 at h
  refine y_enter (n := 5) (args := [.int .i64 i0_1]) Tryd.func21 rfl rfl rfl fun Q0 hQ0 => ?_
  refine y_seq fun K1 hK1 => ?_
  refine y_region ?_
  refine y_k (.string ((ByteArray.mk #[])) : Value) w rfl rfl rfl (by kernel_rfl) ?_
  refine y_nil ?_
  refine y_then (hK1 _ _ ?_)
  refine y_seq fun K2 hK2 => ?_
  refine y_region ?_
  refine y_k (.int .i64 i0_1 : Value) w rfl rfl rfl (by kernel_rfl) ?_
  refine y_call rfl rfl rfl (by kernel_rfl) (h.mono ?_)
  rintro _ w_3 ⟨t4_2, rfl, h⟩
  refine ⟨_, rfl, ?_⟩
  refine y_k (.string t4_2 : Value) w_3 rfl rfl rfl (by kernel_rfl) ?_
  refine y_nil ?_
  refine y_then (hK2 _ _ ?_)
  refine y_ret ?_
  repeat (first | refine e_then_r ?_ | refine e_block_r ?_)
  exact (hQ0 _ _ _ (res1 (v := (.string t4_2 : Value)) rfl rfl rfl) ⟨_, rfl, h⟩).1

/-- strconv.Itoa -/
def F13 (i0_1 : Int) (K : ByteArray → World → Prop) (w : World) : Prop :=
  Calls Tryd.prog 21 #[.int .i64 i0_1] w fun e w_3 => ∃ (t4_2 : ByteArray), e = .returned (.string t4_2 : Value) ∧
  K t4_2 w_3
set_option maxHeartbeats 4000000 in
set_option maxRecDepth 20000 in
theorem F13_sound (i0_1 : Int) (K : ByteArray → World → Prop) (w : World) (h : F13 i0_1 K w) :
    Calls Tryd.prog 13 #[.int .i64 i0_1] w (fun e w1 => ∃ (r0 : ByteArray), e = .returned (.string r0 : Value) ∧ K r0 w1) := by
  unfold F13 at h
  refine y_enter (n := 5) (args := [.int .i64 i0_1]) Tryd.func13 rfl rfl rfl fun Q0 hQ0 => ?_
  refine y_seq fun K1 hK1 => ?_
  refine y_region ?_
  refine y_k (.string ((ByteArray.mk #[])) : Value) w rfl rfl rfl (by kernel_rfl) ?_
  refine y_nil ?_
  refine y_then (hK1 _ _ ?_)
  refine y_seq fun K2 hK2 => ?_
  refine y_region ?_
  refine y_k (.int .i64 i0_1 : Value) w rfl rfl rfl (by kernel_rfl) ?_
  refine y_call rfl rfl rfl (by kernel_rfl) (h.mono ?_)
  rintro _ w_3 ⟨t4_2, rfl, h⟩
  refine ⟨_, rfl, ?_⟩
  refine y_k (.string t4_2 : Value) w_3 rfl rfl rfl (by kernel_rfl) ?_
  refine y_nil ?_
  refine y_then (hK2 _ _ ?_)
  refine y_ret ?_
  repeat (first | refine e_then_r ?_ | refine e_block_r ?_)
  exact (hQ0 _ _ _ (res1 (v := (.string t4_2 : Value)) rfl rfl rfl) ⟨_, rfl, h⟩).1

/-- (turnkey/api.Errno).Error -/
def F8 (e0_1 : Int) (K : ByteArray → World → Prop) (w : World) : Prop :=
  Calls Tryd.prog 13 #[.int .i64 e0_1] w fun e w_3 => ∃ (t4_2 : ByteArray), e = .returned (.string t4_2 : Value) ∧
  ∃ (t5_4 : ByteArray), (do eqGuard .add 9 (Operand.const (Value.string { data := #[116, 117, 114, 110, 107, 101, 121, 58, 32, 101, 114, 114, 111, 114, 32] })) (Operand.tmp 4) (.string ((ByteArray.mk #[116, 117, 114, 110, 107, 101, 121, 58, 32, 101, 114, 114, 111, 114, 32])) : Value) (.string t4_2 : Value); binOp .add 9 (.string ((ByteArray.mk #[116, 117, 114, 110, 107, 101, 121, 58, 32, 101, 114, 114, 111, 114, 32])) : Value) (.string t4_2 : Value)).run Tryd.prog w_3 = .ok (.string t5_4 : Value) w_3 ∧
  K t5_4 w_3
set_option maxHeartbeats 4000000 in
set_option maxRecDepth 20000 in
theorem F8_sound (e0_1 : Int) (K : ByteArray → World → Prop) (w : World) (h : F8 e0_1 K w) :
    Calls Tryd.prog 8 #[.int .i64 e0_1] w (fun e w1 => ∃ (r0 : ByteArray), e = .returned (.string r0 : Value) ∧ K r0 w1) := by
  unfold F8 at h
  refine y_enter (n := 6) (args := [.int .i64 e0_1]) Tryd.func8 rfl rfl rfl fun Q0 hQ0 => ?_
  refine y_seq fun K1 hK1 => ?_
  refine y_region ?_
  refine y_k (.string ((ByteArray.mk #[])) : Value) w rfl rfl rfl (by kernel_rfl) ?_
  refine y_nil ?_
  refine y_then (hK1 _ _ ?_)
  refine y_seq fun K2 hK2 => ?_
  refine y_region ?_
  refine y_k (.int .i64 e0_1 : Value) w rfl rfl rfl (by kernel_rfl) ?_
  refine y_call rfl rfl rfl (by kernel_rfl) (h.mono ?_)
  rintro _ w_3 ⟨t4_2, rfl, h⟩
  refine ⟨_, rfl, ?_⟩
  obtain ⟨t5_4, hx3, h⟩ := h
  refine y_v (s := do eqGuard .add 9 (Operand.const (Value.string { data := #[116, 117, 114, 110, 107, 101, 121, 58, 32, 101, 114, 114, 111, 114, 32] })) (Operand.tmp 4) (.string ((ByteArray.mk #[116, 117, 114, 110, 107, 101, 121, 58, 32, 101, 114, 114, 111, 114, 32])) : Value) (.string t4_2 : Value); binOp .add 9 (.string ((ByteArray.mk #[116, 117, 114, 110, 107, 101, 121, 58, 32, 101, 114, 114, 111, 114, 32])) : Value) (.string t4_2 : Value)) rfl rfl rfl (by kernel_rfl) (hx3) ?_
  refine y_k (.string t5_4 : Value) w_3 rfl rfl rfl (by kernel_rfl) ?_
  refine y_nil ?_
  refine y_then (hK2 _ _ ?_)
  refine y_ret ?_
  repeat (first | refine e_then_r ?_ | refine e_block_r ?_)
  exact (hQ0 _ _ _ (res1 (v := (.string t5_4 : Value)) rfl rfl rfl) ⟨_, rfl, h⟩).1

/-- (*turnkey/api.Fault).Error -/
def F7 (f0_1 : Option Addr) (K : ByteArray → World → Prop) (w : World) : Prop :=
  ∀ (w_2 : World), w_2 = w.drew →
  ∃ (a_3 : Addr), f0_1 = some a_3 ∧
  ∃ (t6_4 : Int), w_2.cell? (a_3.add 1) = some (.int .i64 t6_4) ∧
  ∃ (a_5 : Addr), f0_1 = some a_5 ∧
  ∃ (t12_6 : Int), w_2.cell? a_5 = some (.int .i64 t12_6) ∧
  Calls Tryd.prog 8 #[.int .i64 t6_4] w_2 fun e w_8 => ∃ (t7_7 : ByteArray), e = .returned (.string t7_7 : Value) ∧ w_8.cell? a_5 = some (.int .i64 t12_6) ∧ 
  ∃ (t8_9 : ByteArray), (do eqGuard .add 9 (Operand.tmp 7) (Operand.const (Value.string { data := #[32, 97, 116, 32] })) (.string t7_7 : Value) (.string ((ByteArray.mk #[32, 97, 116, 32])) : Value); binOp .add 9 (.string t7_7 : Value) (.string ((ByteArray.mk #[32, 97, 116, 32])) : Value)).run Tryd.prog w_8 = .ok (.string t8_9 : Value) w_8 ∧
  Calls Tryd.prog 13 #[.int .i64 t12_6] w_8 fun e w_11 => ∃ (t13_10 : ByteArray), e = .returned (.string t13_10 : Value) ∧ (do eqGuard .add 9 (Operand.tmp 7) (Operand.const (Value.string { data := #[32, 97, 116, 32] })) (.string t7_7 : Value) (.string ((ByteArray.mk #[32, 97, 116, 32])) : Value); binOp .add 9 (.string t7_7 : Value) (.string ((ByteArray.mk #[32, 97, 116, 32])) : Value)).run Tryd.prog w_11 = .ok (.string t8_9 : Value) w_11 ∧ 
  ∃ (t14_12 : ByteArray), (do eqGuard .add 9 (Operand.tmp 8) (Operand.tmp 13) (.string t8_9 : Value) (.string t13_10 : Value); binOp .add 9 (.string t8_9 : Value) (.string t13_10 : Value)).run Tryd.prog w_11 = .ok (.string t14_12 : Value) w_11 ∧
  K t14_12 w_11
set_option maxHeartbeats 4000000 in
set_option maxRecDepth 20000 in
theorem F7_sound (f0_1 : Option Addr) (K : ByteArray → World → Prop) (w : World) (h : F7 f0_1 K w) :
    Calls Tryd.prog 7 #[.pointer f0_1] w (fun e w1 => ∃ (r0 : ByteArray), e = .returned (.string r0 : Value) ∧ K r0 w1) := by
  unfold F7 at h
  refine y_enter (n := 15) (args := [.pointer f0_1]) Tryd.func7 rfl rfl rfl fun Q0 hQ0 => ?_
  refine y_seq fun K1 hK1 => ?_
  refine y_region ?_
  refine y_k (.string ((ByteArray.mk #[])) : Value) w rfl rfl rfl (by kernel_rfl) ?_
  refine y_nil ?_
  refine y_then (hK1 _ _ ?_)
  refine y_seq fun K2 hK2 => ?_
  obtain ⟨w_2, hwd3⟩ : ∃ wd : World, wd = w.drew := ⟨_, rfl⟩
  replace h := h _ hwd3
  refine t_region (wd := w_2) [] (by kernel_rfl) hwd3 SF_nil fun Q3 hE3 hp3 hS => ?_
  clear hwd3
  refine t_kw hp3 hS 0 (.pointer f0_1 : Value) rfl (wanted_none rfl) rfl rfl (by kernel_rfl) (fun _ _ => by kernel_rfl) fun hS => ?_
  obtain ⟨a_3, hx4, h⟩ := h
  refine t_kw hp3 hS 1 (.pointer (some a_3) : Value) rfl (wanted_none rfl) rfl rfl (by kernel_rfl) (fun _ _ => run_nilCheck hx4 rfl) fun hS => ?_
  refine t_kw hp3 hS 2 (.pointer (some (a_3.add 1)) : Value) rfl (wanted_none rfl) rfl rfl (by kernel_rfl) (fun _ _ => by kernel_rfl) fun hS => ?_
  obtain ⟨t6_4, hx5, h⟩ := h
  refine t_add ⟨3, [4, 10], fun wx => wx.cell? (a_3.add 1) = some (.int .i64 t6_4)⟩ ?_
  replace hS := SF_on (x := ⟨3, [4, 10], fun wx => wx.cell? (a_3.add 1) = some (.int .i64 t6_4)⟩) hx5 hS
  refine t_v (s := Instr.loadAt 23 (.pointer (some (a_3.add 1)))) hp3 hS 3 (.int .i64 t6_4 : Value) rfl (wanted_none rfl) rfl rfl (by kernel_rfl) (by kernel_rfl) (fun _ hw => rn_load (by kernel_rfl) (Sw.fact (List.Mem.head _) rfl hw)) fun hS => ?_
  refine t_kw hp3 hS 6 (.pointer f0_1 : Value) rfl (wanted_none rfl) rfl rfl (by kernel_rfl) (fun _ _ => by kernel_rfl) fun hS => ?_
  obtain ⟨a_5, hx6, h⟩ := h
  refine t_kw hp3 hS 7 (.pointer (some a_5) : Value) rfl (wanted_none rfl) rfl rfl (by kernel_rfl) (fun _ _ => run_nilCheck hx6 rfl) fun hS => ?_
  refine t_kw hp3 hS 8 (.pointer (some a_5) : Value) rfl (wanted_none rfl) rfl rfl (by kernel_rfl) (fun _ _ => by kernel_rfl) fun hS => ?_
  obtain ⟨t12_6, hx7, h⟩ := h
  refine t_add ⟨9, [10], fun wx => wx.cell? a_5 = some (.int .i64 t12_6)⟩ ?_
  replace hS := SF_on (x := ⟨9, [10], fun wx => wx.cell? a_5 = some (.int .i64 t12_6)⟩) hx7 hS
  refine t_v (s := Instr.loadAt 3 (.pointer (some a_5))) hp3 hS 9 (.int .i64 t12_6 : Value) rfl (wanted_none rfl) rfl rfl (by kernel_rfl) (by kernel_rfl) (fun _ hw => rn_load (by kernel_rfl) (Sw.fact (List.Mem.head _) rfl hw)) fun hS => ?_
  refine t_call 4 (by kernel_rfl) rfl (wanted_none rfl) rfl rfl (by kernel_rfl) (h.mono ?_)
  rintro _ w_8 ⟨t7_7, rfl, hx8, h⟩
  refine ⟨_, rfl, (SF_on hx8 (SF_off (by kernel_rfl) (by kernel_rfl) SF_nil)), fun hS => ?_⟩
  obtain ⟨t8_9, hx9, h⟩ := h
  refine t_add ⟨5, [], fun wx => (do eqGuard .add 9 (Operand.tmp 7) (Operand.const (Value.string { data := #[32, 97, 116, 32] })) (.string t7_7 : Value) (.string ((ByteArray.mk #[32, 97, 116, 32])) : Value); binOp .add 9 (.string t7_7 : Value) (.string ((ByteArray.mk #[32, 97, 116, 32])) : Value)).run Tryd.prog wx = .ok (.string t8_9 : Value) wx⟩ ?_
  replace hS := SF_on (x := ⟨5, [], fun wx => (do eqGuard .add 9 (Operand.tmp 7) (Operand.const (Value.string { data := #[32, 97, 116, 32] })) (.string t7_7 : Value) (.string ((ByteArray.mk #[32, 97, 116, 32])) : Value); binOp .add 9 (.string t7_7 : Value) (.string ((ByteArray.mk #[32, 97, 116, 32])) : Value)).run Tryd.prog wx = .ok (.string t8_9 : Value) wx⟩) hx9 hS
  refine t_v (s := do eqGuard .add 9 (Operand.tmp 7) (Operand.const (Value.string { data := #[32, 97, 116, 32] })) (.string t7_7 : Value) (.string ((ByteArray.mk #[32, 97, 116, 32])) : Value); binOp .add 9 (.string t7_7 : Value) (.string ((ByteArray.mk #[32, 97, 116, 32])) : Value)) hp3 hS 5 (.string t8_9 : Value) rfl (wanted_none rfl) rfl rfl (by kernel_rfl) (by kernel_rfl) (fun _ hw => (Sw.fact (List.Mem.head _) rfl hw)) fun hS => ?_
  refine t_call 10 (by kernel_rfl) rfl (wanted_none rfl) rfl rfl (by kernel_rfl) (h.mono ?_)
  rintro _ w_11 ⟨t13_10, rfl, hx10, h⟩
  refine ⟨_, rfl, (SF_on hx10 (SF_off (by kernel_rfl) (by kernel_rfl) (SF_off (by kernel_rfl) (by kernel_rfl) SF_nil))), fun hS => ?_⟩
  obtain ⟨t14_12, hx11, h⟩ := h
  refine t_add ⟨11, [], fun wx => (do eqGuard .add 9 (Operand.tmp 8) (Operand.tmp 13) (.string t8_9 : Value) (.string t13_10 : Value); binOp .add 9 (.string t8_9 : Value) (.string t13_10 : Value)).run Tryd.prog wx = .ok (.string t14_12 : Value) wx⟩ ?_
  replace hS := SF_on (x := ⟨11, [], fun wx => (do eqGuard .add 9 (Operand.tmp 8) (Operand.tmp 13) (.string t8_9 : Value) (.string t13_10 : Value); binOp .add 9 (.string t8_9 : Value) (.string t13_10 : Value)).run Tryd.prog wx = .ok (.string t14_12 : Value) wx⟩) hx11 hS
  refine t_v (s := do eqGuard .add 9 (Operand.tmp 8) (Operand.tmp 13) (.string t8_9 : Value) (.string t13_10 : Value); binOp .add 9 (.string t8_9 : Value) (.string t13_10 : Value)) hp3 hS 11 (.string t14_12 : Value) rfl (wanted_none rfl) rfl rfl (by kernel_rfl) (by kernel_rfl) (fun _ hw => (Sw.fact (List.Mem.head _) rfl hw)) fun hS => ?_
  refine t_kw hp3 hS 12 (.string t14_12 : Value) rfl (wanted_none rfl) rfl rfl (by kernel_rfl) (fun _ _ => by kernel_rfl) fun hS => ?_
  refine t_done (by kernel_rfl) (hE3 _ _ ?_)
  refine y_then (hK2 _ _ ?_)
  refine y_ret ?_
  repeat (first | refine e_then_r ?_ | refine e_block_r ?_)
  exact (hQ0 _ _ _ (res1 (v := (.string t14_12 : Value)) rfl rfl rfl) ⟨_, rfl, h⟩).1

/-- turnkey/turnkeytop.num -/
def F6 (e0_1 : Int) (K : Int → World → Prop) (w : World) : Prop :=
  K e0_1 w
set_option maxHeartbeats 4000000 in
set_option maxRecDepth 20000 in
theorem F6_sound (e0_1 : Int) (K : Int → World → Prop) (w : World) (h : F6 e0_1 K w) :
    Calls Tryd.prog 6 #[.int .i64 e0_1] w (fun e w1 => ∃ (r0 : Int), e = .returned (.int .i64 r0 : Value) ∧ K r0 w1) := by
  unfold F6 at h
  refine y_enter (n := 4) (args := [.int .i64 e0_1]) Tryd.func6 rfl rfl rfl fun Q0 hQ0 => ?_
  refine y_seq fun K1 hK1 => ?_
  refine y_region ?_
  refine y_k (.int .i64 0 : Value) w rfl rfl rfl (by kernel_rfl) ?_
  refine y_nil ?_
  refine y_then (hK1 _ _ ?_)
  refine y_seq fun K2 hK2 => ?_
  refine y_region ?_
  refine y_k (.int .i64 e0_1 : Value) w rfl rfl rfl (by kernel_rfl) ?_
  refine y_k (.int .i64 e0_1 : Value) w rfl rfl rfl (by kernel_rfl) ?_
  refine y_nil ?_
  refine y_then (hK2 _ _ ?_)
  refine y_ret ?_
  repeat (first | refine e_then_r ?_ | refine e_block_r ?_)
  exact (hQ0 _ _ _ (res1 (v := (.int .i64 e0_1 : Value)) rfl rfl rfl) ⟨_, rfl, h⟩).1

/-- (*turnkey/api.Fault).Unwrap -/
def F5 (f0_1 : Option Addr) (K : Value → World → Prop) (w : World) : Prop :=
  ∃ (a_2 : Addr), f0_1 = some a_2 ∧
  ∃ (t6_3 : Int), w.cell? (a_2.add 1) = some (.int .i64 t6_3) ∧
  K ((Value.iface 23 (.int .i64 t6_3))) w
set_option maxHeartbeats 4000000 in
set_option maxRecDepth 20000 in
theorem F5_sound (f0_1 : Option Addr) (K : Value → World → Prop) (w : World) (h : F5 f0_1 K w) :
    Calls Tryd.prog 5 #[.pointer f0_1] w (fun e w1 => ∃ (r0 : Value), e = .returned r0 ∧ K r0 w1) := by
  unfold F5 at h
  refine y_enter (n := 8) (args := [.pointer f0_1]) Tryd.func5 rfl rfl rfl fun Q0 hQ0 => ?_
  refine y_seq fun K1 hK1 => ?_
  refine y_region ?_
  refine y_k (Value.nilIface) w rfl rfl rfl (by kernel_rfl) ?_
  refine y_nil ?_
  refine y_then (hK1 _ _ ?_)
  refine y_seq fun K2 hK2 => ?_
  refine y_region ?_
  refine y_k (.pointer f0_1 : Value) w rfl rfl rfl (by kernel_rfl) ?_
  obtain ⟨a_2, hx3, h⟩ := h
  refine y_k (.pointer (some a_2) : Value) w rfl rfl rfl (run_nilCheck hx3 rfl) ?_
  refine y_k (.pointer (some (a_2.add 1)) : Value) w rfl rfl rfl (by kernel_rfl) ?_
  obtain ⟨t6_3, hx4, h⟩ := h
  refine y_v (s := Instr.loadAt 23 (.pointer (some (a_2.add 1)))) rfl rfl rfl (by kernel_rfl) (rn_load (by kernel_rfl) hx4) ?_
  refine y_k (Value.iface 23 (.int .i64 t6_3)) w rfl rfl rfl (by kernel_rfl) ?_
  refine y_k (Value.iface 23 (.int .i64 t6_3)) w rfl rfl rfl (by kernel_rfl) ?_
  refine y_nil ?_
  refine y_then (hK2 _ _ ?_)
  refine y_ret ?_
  repeat (first | refine e_then_r ?_ | refine e_block_r ?_)
  exact (hQ0 _ _ _ (res1 (v := (Value.iface 23 (.int .i64 t6_3))) rfl rfl rfl) ⟨_, rfl, h⟩).1

end Go.Proofs.YtdeficpjcnhdkaaDoor
