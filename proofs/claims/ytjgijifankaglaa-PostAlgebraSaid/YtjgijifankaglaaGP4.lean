/- Printed by gen.py (own program, wip/): for each Go function a predicate transformer and its soundness. -/
import Derived.Test.YtjgijifankaglaaProg
import Derived.Test.YtjgijifankaglaaST
namespace Go.Proofs.Ytjgijifankaglaa
open Go Go.RowKit Go.Proofs.Ytjgijifankaglaa.SX
set_option linter.unusedVariables false

def F4_j3 (K : Bool → World → Prop) (t4_52 : Bool) (w_53 : World) : Prop :=
  K t4_52 w_53
def F4_l2 (K : Bool → World → Prop) (t19_3 : Bool) (b0_8 : Sl) (t31_14 : Sl) (t40_19 : Sl) (t40_20 : Bool) (t46_22 : Sl) (t46_23 : Bool) (t54_27 : Int) (t59_30 : Int) (t64_32 : Bool) (t67_34 : Bool) (next23 : (Int) → World → Prop) : (Int) → World → Prop := fun (i18_37) w_38 =>
  ((i18_37 < ((t40_19.n : Int)) →
  ((t40_20 = false →
  ∀ (w_39 : World), (∃ m, w_39 = w_38.drewN m) →
  K false w_39) ∧
  (t40_20 = true →
  ((i18_37 ≥ ((t46_22.n : Int)) →
  ∀ (w_40 : World), (∃ m, w_40 = w_38.drewN m) →
  K false w_40) ∧
  (¬ (i18_37 ≥ ((t46_22.n : Int))) →
  (0 : Int) ≤ i18_37 ∧ i18_37 < (t40_19.n : Int) ∧ ∃ (a_41 : Addr), t40_19.a = some a_41 ∧
  ∃ (t88_42 : Int), w_38.cell? (a_41.add (Int.toNat i18_37)) = some (.int .u8 t88_42) ∧
  (0 : Int) ≤ i18_37 ∧ i18_37 < (t46_22.n : Int) ∧ ∃ (a_43 : Addr), t46_22.a = some a_43 ∧
  ∃ (t92_44 : Int), w_38.cell? (a_43.add (Int.toNat i18_37)) = some (.int .u8 t92_44) ∧
  ∀ (w_45 : World), (∃ m, w_45 = w_38.drewN m) →
  ((¬ t88_42 = t92_44 →
  K false w_45) ∧
  (t88_42 = t92_44 →
  (0 : Int) ≤ i18_37 ∧ i18_37 < (t40_19.n : Int) ∧ ∃ (a_46 : Addr), t40_19.a = some a_46 ∧
  HasCell w_45 (a_46.add (Int.toNat i18_37)) ∧ ∀ (w_47 : World), w_47 = w_45.setCell (a_46.add (Int.toNat i18_37)) (.int .u8 7 : Value) →
  next23 (IntKind.i64.wrap (i18_37 + 1)) w_47))))))) ∧
  (¬ (i18_37 < ((t40_19.n : Int))) →
  ((¬ (((t40_19.n : Int))) = (((t46_22.n : Int))) →
  K false w_38) ∧
  ((((t40_19.n : Int))) = (((t46_22.n : Int))) →
  ∃ (t106_48 : Bool), (do eqGuard .neq 4 (Operand.tmp 104) (Operand.tmp 105) (.bool t40_20 : Value) (.bool t46_23 : Value); binOp .neq 4 (.bool t40_20 : Value) (.bool t46_23 : Value)).run Try.prog w_38 = .ok (.bool t106_48 : Value) w_38 ∧
  ((t106_48 = true →
  K false w_38) ∧
  (t106_48 = false →
  ((¬ t54_27 = t59_30 →
  K false w_38) ∧
  (t54_27 = t59_30 →
  ((t64_32 = false →
  K false w_38) ∧
  (t64_32 = true →
  ((t67_34 = false →
  K false w_38) ∧
  (t67_34 = true →
  ((t19_3 = true →
  ∃ (t124_49 : ByteArray), (convert 33 9 (.slice t31_14.a t31_14.n t31_14.c : Value)).run Try.prog w_38 = .ok (.string t124_49 : Value) w_38 ∧
  ∃ (t126_50 : ByteArray), (convert 33 9 (.slice b0_8.a b0_8.n b0_8.c : Value)).run Try.prog w_38 = .ok (.string t126_50 : Value) w_38 ∧
  ∃ (t127_51 : ByteArray), (do eqGuard .add 9 (Operand.tmp 126) (Operand.const (Value.string { data := #[1, 1, 1] })) (.string t126_50 : Value) (.string ((ByteArray.mk #[1, 1, 1])) : Value); binOp .add 9 (.string t126_50 : Value) (.string ((ByteArray.mk #[1, 1, 1])) : Value)).run Try.prog w_38 = .ok (.string t127_51 : Value) w_38 ∧
  F4_j3 K ((t124_49.toList == t127_51.toList)) w_38) ∧
  (t19_3 = false →
  F4_j3 K false w_38))))))))))))))
def F4_j1 (K : Bool → World → Prop) (t19_3 : Bool) (t21_5 : Sl) (b0_8 : Sl) (w_9 : World) : Prop :=
  ∀ (w_10 : World), w_10 = w_9.alloc (.cells #[] 5) →
  ∃ (t29_11 : Sl), ∃ (w_12 : World), (Builtin.append_ #[33, 33] 33 #[.slice (some ⟨w_9.heap.size, 0, none⟩) 0 0, .slice b0_8.a b0_8.n b0_8.c]).run Try.prog w_10 = .ok (.slice t29_11.a t29_11.n t29_11.c : Value) w_12 ∧
  ∀ (w_13 : World), w_13 = w_12.alloc (.cells #[.int .u8 1, .int .u8 1, .int .u8 1] 5) →
  ∃ (t31_14 : Sl), ∃ (w_15 : World), (Builtin.append_ #[33, 33] 33 #[.slice t29_11.a t29_11.n t29_11.c, .slice (some ⟨w_12.heap.size, 0, none⟩) 3 3]).run Try.prog w_13 = .ok (.slice t31_14.a t31_14.n t31_14.c : Value) w_15 ∧
  Calls Try.prog 15 #[.slice t21_5.a t21_5.n t21_5.c] w_15 fun e w_17 => ∃ (t33_16 : Sl), e = .returned (.slice t33_16.a t33_16.n t33_16.c : Value) ∧
  ∃ (t38_18 : Sl), (Instr.sliceAt 33 (.slice t31_14.a t31_14.n t31_14.c : Value) none (some (.int .i64 ((b0_8.n : Int)) : Value)) none).run Try.prog w_17 = .ok (.slice t38_18.a t38_18.n t38_18.c : Value) w_17 ∧
  Calls Try.prog 31 #[.slice t38_18.a t38_18.n t38_18.c, .slice t33_16.a t33_16.n t33_16.c] w_17 fun e w_21 => ∃ (t40_19 : Sl), ∃ (t40_20 : Bool), e = .returned (.tuple #[.slice t40_19.a t40_19.n t40_19.c, .bool t40_20] : Value) ∧
  Calls Try.prog 32 #[.slice b0_8.a b0_8.n b0_8.c, .slice t21_5.a t21_5.n t21_5.c] w_21 fun e w_24 => ∃ (t46_22 : Sl), ∃ (t46_23 : Bool), e = .returned (.tuple #[.slice t46_22.a t46_22.n t46_22.c, .bool t46_23] : Value) ∧
  ∃ (t53_25 : Sl), (Instr.sliceAt 33 (.slice t31_14.a t31_14.n t31_14.c : Value) none (some (.int .i64 ((b0_8.n : Int)) : Value)) none).run Try.prog w_24 = .ok (.slice t53_25.a t53_25.n t53_25.c : Value) w_24 ∧
  Calls Try.prog 33 #[.slice t53_25.a t53_25.n t53_25.c] w_24 fun e w_28 => ∃ (t54_26 : Sl), ∃ (t54_27 : Int), e = .returned (.tuple #[.slice t54_26.a t54_26.n t54_26.c, .int .i64 t54_27] : Value) ∧
  Calls Try.prog 34 #[.slice b0_8.a b0_8.n b0_8.c] w_28 fun e w_31 => ∃ (t59_29 : Sl), ∃ (t59_30 : Int), e = .returned (.tuple #[.slice t59_29.a t59_29.n t59_29.c, .int .i64 t59_30] : Value) ∧
  Calls Try.prog 30 #[.slice t33_16.a t33_16.n t33_16.c, .slice t21_5.a t21_5.n t21_5.c] w_31 fun e w_33 => ∃ (t64_32 : Bool), e = .returned (.bool t64_32 : Value) ∧
  Calls Try.prog 23 #[.slice t54_26.a t54_26.n t54_26.c, .slice t59_29.a t59_29.n t59_29.c] w_33 fun e w_35 => ∃ (t67_34 : Bool), e = .returned (.bool t67_34 : Value) ∧
  Calls Try.prog 29 #[.slice t54_26.a t54_26.n t54_26.c] w_35 fun e w_36 => e = .returned (.tuple #[] : Value) ∧
  kLoop (F4_l2 K t19_3 b0_8 t31_14 t40_19 t40_20 t46_22 t46_23 t54_27 t59_30 t64_32 t67_34) (0) w_36
/-- turnkey/turnkeylaw12.PostCodes -/
def F4 (b0_1 : Sl) (l1_2 : Sl) (K : Bool → World → Prop) (w : World) : Prop :=
  Calls Try.prog 13 #[] w fun e w_4 => ∃ (t19_3 : Bool), e = .returned (.bool t19_3 : Value) ∧
  Calls Try.prog 14 #[.slice l1_2.a l1_2.n l1_2.c] w_4 fun e w_6 => ∃ (t21_5 : Sl), e = .returned (.slice t21_5.a t21_5.n t21_5.c : Value) ∧
  ((((b0_1.n : Int)) > 4000 →
  ∃ (t26_7 : Sl), (Instr.sliceAt 33 (.slice b0_1.a b0_1.n b0_1.c : Value) none (some (.int .i64 4000 : Value)) none).run Try.prog w_6 = .ok (.slice t26_7.a t26_7.n t26_7.c : Value) w_6 ∧
  F4_j1 K t19_3 t21_5 t26_7 w_6) ∧
  (¬ (((b0_1.n : Int)) > 4000) →
  F4_j1 K t19_3 t21_5 b0_1 w_6))
set_option maxHeartbeats 4000000 in
set_option maxRecDepth 20000 in
theorem F4_sound (b0_1 : Sl) (l1_2 : Sl) (K : Bool → World → Prop) (w : World) (h : F4 b0_1 l1_2 K w) :
    Calls Try.prog 4 #[.slice b0_1.a b0_1.n b0_1.c, .slice l1_2.a l1_2.n l1_2.c] w (fun e w1 => ∃ (r0 : Bool), e = .returned (.bool r0 : Value) ∧ K r0 w1) := by
  unfold F4 at h
  refine y_enter (n := 130) (args := [.slice b0_1.a b0_1.n b0_1.c, .slice l1_2.a l1_2.n l1_2.c]) Try.func4 rfl rfl rfl fun Q0 hQ0 => ?_
  refine y_seq fun K1 hK1 => ?_
  refine y_region ?_
  refine y_k (.bool false : Value) w rfl rfl rfl (by kernel_rfl) ?_
  refine y_nil ?_
  refine y_then (hK1 _ _ ?_)
  refine y_seq fun K2 hK2 => ?_
  refine y_region ?_
  refine y_call rfl rfl rfl (by kernel_rfl) (h.mono ?_)
  rintro _ w_4 ⟨t19_3, rfl, h⟩
  refine ⟨_, rfl, ?_⟩
  refine y_k (.bool t19_3 : Value) w_4 rfl rfl rfl (by kernel_rfl) ?_
  refine y_nil ?_
  refine y_then (hK2 _ _ ?_)
  refine y_seq fun K3 hK3 => ?_
  refine y_region ?_
  refine y_k (.slice l1_2.a l1_2.n l1_2.c : Value) w_4 rfl rfl rfl (by kernel_rfl) ?_
  refine y_call rfl rfl rfl (by kernel_rfl) (h.mono ?_)
  rintro _ w_6 ⟨t21_5, rfl, h⟩
  refine ⟨_, rfl, ?_⟩
  refine y_k (.slice t21_5.a t21_5.n t21_5.c : Value) w_6 rfl rfl rfl (by kernel_rfl) ?_
  refine y_nil ?_
  refine y_then (hK3 _ _ ?_)
  refine y_seq fun K4 hK4 => ?_
  have hjK4 : ∀ (f : Fr) (b0_8 : Sl) (w_9 : World), f 0 = (.slice b0_8.a b0_8.n b0_8.c : Value) → f 1 = (.slice t21_5.a t21_5.n t21_5.c : Value) → f 5 = (.bool t19_3 : Value) → F4_j1 K t19_3 t21_5 b0_8 w_9 → WK K4 130 f w_9 := by
    intro f b0_8 w_9 e0 e1 e5 h
    refine y_atf (upd_id (upd_id (upd_id rfl e0) e1) e5) ?_
    clear e0 e1 e5
    unfold F4_j1 at h
    refine hK4 _ _ ?_
    refine y_seq fun K7 hK7 => ?_
    refine y_region ?_
    refine y_k (.slice (some ⟨w_9.heap.size, 0, none⟩) 0 0 : Value) (w_9.alloc (.cells #[] 5)) rfl rfl rfl (by kernel_rfl) ?_
    replace h := h _ rfl
    generalize w_9.alloc (.cells #[] 5) = w_10 at h ⊢
    refine y_k (.slice b0_8.a b0_8.n b0_8.c : Value) w_10 rfl rfl rfl (by kernel_rfl) ?_
    obtain ⟨t29_11, w_12, hx8, h⟩ := h
    refine y_v (s := Builtin.append_ #[33, 33] 33 #[.slice (some ⟨w_9.heap.size, 0, none⟩) 0 0, .slice b0_8.a b0_8.n b0_8.c]) rfl rfl rfl (by kernel_rfl) hx8 ?_
    refine y_k (.slice (some ⟨w_12.heap.size, 0, none⟩) 3 3 : Value) (w_12.alloc (.cells #[.int .u8 1, .int .u8 1, .int .u8 1] 5)) rfl rfl rfl (by kernel_rfl) ?_
    replace h := h _ rfl
    generalize w_12.alloc (.cells #[.int .u8 1, .int .u8 1, .int .u8 1] 5) = w_13 at h ⊢
    obtain ⟨t31_14, w_15, hx9, h⟩ := h
    refine y_v (s := Builtin.append_ #[33, 33] 33 #[.slice t29_11.a t29_11.n t29_11.c, .slice (some ⟨w_12.heap.size, 0, none⟩) 3 3]) rfl rfl rfl (by kernel_rfl) hx9 ?_
    refine y_k (.slice t31_14.a t31_14.n t31_14.c : Value) w_15 rfl rfl rfl (by kernel_rfl) ?_
    refine y_nil ?_
    refine y_then (hK7 _ _ ?_)
    refine y_seq fun K10 hK10 => ?_
    refine y_region ?_
    refine y_k (.slice t21_5.a t21_5.n t21_5.c : Value) w_15 rfl rfl rfl (by kernel_rfl) ?_
    refine y_call rfl rfl rfl (by kernel_rfl) (h.mono ?_)
    rintro _ w_17 ⟨t33_16, rfl, h⟩
    refine ⟨_, rfl, ?_⟩
    refine y_k (.slice t33_16.a t33_16.n t33_16.c : Value) w_17 rfl rfl rfl (by kernel_rfl) ?_
    refine y_nil ?_
    refine y_then (hK10 _ _ ?_)
    refine y_seq fun K11 hK11 => ?_
    refine y_region ?_
    refine y_k (.slice t31_14.a t31_14.n t31_14.c : Value) w_17 rfl rfl rfl (by kernel_rfl) ?_
    refine y_k (.slice b0_8.a b0_8.n b0_8.c : Value) w_17 rfl rfl rfl (by kernel_rfl) ?_
    refine y_k (.int .i64 ((b0_8.n : Int)) : Value) w_17 rfl rfl rfl (by kernel_rfl) ?_
    obtain ⟨t38_18, hx12, h⟩ := h
    refine y_v (s := Instr.sliceAt 33 (.slice t31_14.a t31_14.n t31_14.c : Value) none (some (.int .i64 ((b0_8.n : Int)) : Value)) none) rfl rfl rfl (by kernel_rfl) (hx12) ?_
    refine y_k (.slice t33_16.a t33_16.n t33_16.c : Value) w_17 rfl rfl rfl (by kernel_rfl) ?_
    refine y_call rfl rfl rfl (by kernel_rfl) (h.mono ?_)
    rintro _ w_21 ⟨t40_19, t40_20, rfl, h⟩
    refine ⟨_, rfl, ?_⟩
    refine y_k (.tuple #[.slice t40_19.a t40_19.n t40_19.c, .bool t40_20] : Value) w_21 rfl rfl rfl (by kernel_rfl) ?_
    refine y_k (.slice t40_19.a t40_19.n t40_19.c : Value) w_21 rfl rfl rfl (by kernel_rfl) ?_
    refine y_k (.bool t40_20 : Value) w_21 rfl rfl rfl (by kernel_rfl) ?_
    refine y_k (.slice t40_19.a t40_19.n t40_19.c : Value) w_21 rfl rfl rfl (by kernel_rfl) ?_
    refine y_k (.bool t40_20 : Value) w_21 rfl rfl rfl (by kernel_rfl) ?_
    refine y_nil ?_
    refine y_then (hK11 _ _ ?_)
    refine y_seq fun K13 hK13 => ?_
    refine y_region ?_
    refine y_k (.slice b0_8.a b0_8.n b0_8.c : Value) w_21 rfl rfl rfl (by kernel_rfl) ?_
    refine y_k (.slice t21_5.a t21_5.n t21_5.c : Value) w_21 rfl rfl rfl (by kernel_rfl) ?_
    refine y_call rfl rfl rfl (by kernel_rfl) (h.mono ?_)
    rintro _ w_24 ⟨t46_22, t46_23, rfl, h⟩
    refine ⟨_, rfl, ?_⟩
    refine y_k (.tuple #[.slice t46_22.a t46_22.n t46_22.c, .bool t46_23] : Value) w_24 rfl rfl rfl (by kernel_rfl) ?_
    refine y_k (.slice t46_22.a t46_22.n t46_22.c : Value) w_24 rfl rfl rfl (by kernel_rfl) ?_
    refine y_k (.bool t46_23 : Value) w_24 rfl rfl rfl (by kernel_rfl) ?_
    refine y_k (.slice t46_22.a t46_22.n t46_22.c : Value) w_24 rfl rfl rfl (by kernel_rfl) ?_
    refine y_k (.bool t46_23 : Value) w_24 rfl rfl rfl (by kernel_rfl) ?_
    refine y_nil ?_
    refine y_then (hK13 _ _ ?_)
    refine y_seq fun K14 hK14 => ?_
    refine y_region ?_
    refine y_k (.slice t31_14.a t31_14.n t31_14.c : Value) w_24 rfl rfl rfl (by kernel_rfl) ?_
    refine y_k (.slice b0_8.a b0_8.n b0_8.c : Value) w_24 rfl rfl rfl (by kernel_rfl) ?_
    refine y_k (.int .i64 ((b0_8.n : Int)) : Value) w_24 rfl rfl rfl (by kernel_rfl) ?_
    obtain ⟨t53_25, hx15, h⟩ := h
    refine y_v (s := Instr.sliceAt 33 (.slice t31_14.a t31_14.n t31_14.c : Value) none (some (.int .i64 ((b0_8.n : Int)) : Value)) none) rfl rfl rfl (by kernel_rfl) (hx15) ?_
    refine y_call rfl rfl rfl (by kernel_rfl) (h.mono ?_)
    rintro _ w_28 ⟨t54_26, t54_27, rfl, h⟩
    refine ⟨_, rfl, ?_⟩
    refine y_k (.tuple #[.slice t54_26.a t54_26.n t54_26.c, .int .i64 t54_27] : Value) w_28 rfl rfl rfl (by kernel_rfl) ?_
    refine y_k (.slice t54_26.a t54_26.n t54_26.c : Value) w_28 rfl rfl rfl (by kernel_rfl) ?_
    refine y_k (.int .i64 t54_27 : Value) w_28 rfl rfl rfl (by kernel_rfl) ?_
    refine y_k (.slice t54_26.a t54_26.n t54_26.c : Value) w_28 rfl rfl rfl (by kernel_rfl) ?_
    refine y_k (.int .i64 t54_27 : Value) w_28 rfl rfl rfl (by kernel_rfl) ?_
    refine y_nil ?_
    refine y_then (hK14 _ _ ?_)
    refine y_seq fun K16 hK16 => ?_
    refine y_region ?_
    refine y_k (.slice b0_8.a b0_8.n b0_8.c : Value) w_28 rfl rfl rfl (by kernel_rfl) ?_
    refine y_call rfl rfl rfl (by kernel_rfl) (h.mono ?_)
    rintro _ w_31 ⟨t59_29, t59_30, rfl, h⟩
    refine ⟨_, rfl, ?_⟩
    refine y_k (.tuple #[.slice t59_29.a t59_29.n t59_29.c, .int .i64 t59_30] : Value) w_31 rfl rfl rfl (by kernel_rfl) ?_
    refine y_k (.slice t59_29.a t59_29.n t59_29.c : Value) w_31 rfl rfl rfl (by kernel_rfl) ?_
    refine y_k (.int .i64 t59_30 : Value) w_31 rfl rfl rfl (by kernel_rfl) ?_
    refine y_k (.slice t59_29.a t59_29.n t59_29.c : Value) w_31 rfl rfl rfl (by kernel_rfl) ?_
    refine y_k (.int .i64 t59_30 : Value) w_31 rfl rfl rfl (by kernel_rfl) ?_
    refine y_nil ?_
    refine y_then (hK16 _ _ ?_)
    refine y_seq fun K17 hK17 => ?_
    refine y_region ?_
    refine y_k (.slice t33_16.a t33_16.n t33_16.c : Value) w_31 rfl rfl rfl (by kernel_rfl) ?_
    refine y_k (.slice t21_5.a t21_5.n t21_5.c : Value) w_31 rfl rfl rfl (by kernel_rfl) ?_
    refine y_call rfl rfl rfl (by kernel_rfl) (h.mono ?_)
    rintro _ w_33 ⟨t64_32, rfl, h⟩
    refine ⟨_, rfl, ?_⟩
    refine y_k (.bool t64_32 : Value) w_33 rfl rfl rfl (by kernel_rfl) ?_
    refine y_nil ?_
    refine y_then (hK17 _ _ ?_)
    refine y_seq fun K18 hK18 => ?_
    refine y_region ?_
    refine y_k (.slice t54_26.a t54_26.n t54_26.c : Value) w_33 rfl rfl rfl (by kernel_rfl) ?_
    refine y_k (.slice t59_29.a t59_29.n t59_29.c : Value) w_33 rfl rfl rfl (by kernel_rfl) ?_
    refine y_call rfl rfl rfl (by kernel_rfl) (h.mono ?_)
    rintro _ w_35 ⟨t67_34, rfl, h⟩
    refine ⟨_, rfl, ?_⟩
    refine y_k (.bool t67_34 : Value) w_35 rfl rfl rfl (by kernel_rfl) ?_
    refine y_nil ?_
    refine y_then (hK18 _ _ ?_)
    refine y_seq fun K19 hK19 => ?_
    refine y_region ?_
    refine y_k (.slice t54_26.a t54_26.n t54_26.c : Value) w_35 rfl rfl rfl (by kernel_rfl) ?_
    refine y_call rfl rfl rfl (by kernel_rfl) (h.mono ?_)
    rintro _ w_36 ⟨rfl, h⟩
    refine ⟨_, rfl, ?_⟩
    refine y_nil ?_
    refine y_then (hK19 _ _ ?_)
    refine y_seq fun K20 hK20 => ?_
    refine y_seq fun K21 hK21 => ?_
    refine y_region ?_
    refine y_k (.int .i64 0 : Value) w_36 rfl rfl rfl (by kernel_rfl) ?_
    refine y_nil ?_
    refine y_then (hK21 _ _ ?_)
    refine y_block ?_
    refine y_loop (S := Int) (fun s j => match s with | (i18_37) => upd (upd (upd (upd (upd (upd (upd (upd (upd (upd (upd (upd (j) 0 (.slice b0_8.a b0_8.n b0_8.c : Value)) 5 (.bool t19_3 : Value)) 6 (.slice t31_14.a t31_14.n t31_14.c : Value)) 8 (.slice t40_19.a t40_19.n t40_19.c : Value)) 9 (.bool t40_20 : Value)) 10 (.slice t46_22.a t46_22.n t46_22.c : Value)) 11 (.bool t46_23 : Value)) 13 (.int .i64 t54_27 : Value)) 15 (.int .i64 t59_30 : Value)) 16 (.bool t64_32 : Value)) 17 (.bool t67_34 : Value)) 18 (.int .i64 i18_37 : Value)) (0) ?_ h ?_
    · dsimp only
      refine upd_id ?_ rfl
      refine upd_id ?_ rfl
      refine upd_id ?_ rfl
      refine upd_id ?_ rfl
      refine upd_id ?_ rfl
      refine upd_id ?_ rfl
      refine upd_id ?_ rfl
      refine upd_id ?_ rfl
      refine upd_id ?_ rfl
      refine upd_id ?_ rfl
      refine upd_id ?_ rfl
      refine upd_id ?_ rfl
      rfl
    rintro KN24 next23 hN24 i18_37 j w_38 h
    unfold F4_l2 at h
    refine y_seq fun K25 hK25 => ?_
    refine y_seq fun K26 hK26 => ?_
    refine y_region ?_
    refine y_k (.int .i64 i18_37 : Value) w_38 rfl rfl rfl (by kernel_rfl) ?_
    refine y_k (.slice t40_19.a t40_19.n t40_19.c : Value) w_38 rfl rfl rfl (by kernel_rfl) ?_
    refine y_k (.int .i64 ((t40_19.n : Int)) : Value) w_38 rfl rfl rfl (by kernel_rfl) ?_
    refine y_k (.bool (decide (i18_37 < ((t40_19.n : Int)))) : Value) w_38 rfl rfl rfl (by kernel_rfl) ?_
    refine y_nil ?_
    refine y_then (hK26 _ _ ?_)
    refine y_cond (decide (i18_37 < ((t40_19.n : Int)))) rfl rfl (fun hb65 => ?_) (fun hb65 => ?_)
    · replace h := h.1 (of_decide_eq_true hb65)
      refine y_skip ?_
      refine y_then (hK25 _ _ ?_)
      refine y_seq fun K27 hK27 => ?_
      refine y_block ?_
      refine y_seq fun K29 hK29 => ?_
      refine y_seq fun K30 hK30 => ?_
      refine q_region (by kernel_rfl) (by kernel_rfl) fun Qq31 hQq31 => ?_
      refine q_k (.bool t40_20 : Value) rfl rfl rfl (fun _ => by kernel_rfl) ?_
      refine q_k (.bool (!(t40_20)) : Value) rfl rfl rfl (fun _ => by kernel_rfl) ?_
      refine q_k (.bool (!(t40_20)) : Value) rfl rfl rfl (fun _ => by kernel_rfl) ?_
      refine q_fork (!(t40_20)) (fun hb32 => ?_) (fun hb32 => ?_)
      · replace h := h.1 ((not_true_of hb32))
        refine q_frame (upd_id (i := 78) (v := .bool true) rfl (congrArg Value.bool hb32)) ?_
        refine q_gno rfl rfl rfl rfl ?_
        refine q_gno rfl rfl rfl rfl ?_
        refine q_gno rfl rfl rfl rfl ?_
        refine q_gno rfl rfl rfl rfl ?_
        refine q_k (.bool true : Value) rfl rfl rfl (fun _ => by kernel_rfl) ?_
        refine q_k (.bool true : Value) rfl rfl rfl (fun _ => by kernel_rfl) ?_
        refine q_gno rfl rfl rfl rfl ?_
        refine q_gno rfl rfl rfl rfl ?_
        refine q_gno rfl rfl rfl rfl ?_
        refine q_gno rfl rfl rfl rfl ?_
        refine q_gno rfl rfl rfl rfl ?_
        refine q_gno rfl rfl rfl rfl ?_
        refine q_gno rfl rfl rfl rfl ?_
        refine q_gno rfl rfl rfl rfl ?_
        refine q_gno rfl rfl rfl rfl ?_
        refine q_k (.bool true : Value) rfl rfl rfl (fun _ => by kernel_rfl) ?_
        refine q_nil (hQq31 _ fun m34 => ?_)
        replace h := h _ ⟨m34, rfl⟩
        generalize w_38.drewN m34 = w_39 at h ⊢
        refine y_then (hK30 _ _ ?_)
        refine y_cond_t rfl rfl ?_
        refine y_seq fun K33 hK33 => ?_
        refine y_region ?_
        refine y_k (.bool false : Value) w_39 rfl rfl rfl (by kernel_rfl) ?_
        refine y_nil ?_
        refine y_then (hK33 _ _ ?_)
        refine y_ret ?_
        repeat (first | refine e_then_r ?_ | refine e_block_r ?_)
        exact (hQ0 _ _ _ (res1 (v := (.bool false : Value)) rfl rfl rfl) ⟨_, rfl, h⟩).1
      · replace h := h.2 ((not_false_of hb32))
        refine q_frame (upd_id (i := 78) (v := .bool false) rfl (congrArg Value.bool hb32)) ?_
        refine q_gyes rfl rfl rfl ?_
        refine q_k (.int .i64 i18_37 : Value) rfl rfl rfl (fun _ => by kernel_rfl) ?_
        refine q_gyes rfl rfl rfl ?_
        refine q_k (.slice t46_22.a t46_22.n t46_22.c : Value) rfl rfl rfl (fun _ => by kernel_rfl) ?_
        refine q_gyes rfl rfl rfl ?_
        refine q_k (.int .i64 ((t46_22.n : Int)) : Value) rfl rfl rfl (fun _ => by kernel_rfl) ?_
        refine q_gyes rfl rfl rfl ?_
        refine q_k (.bool (decide (i18_37 ≥ ((t46_22.n : Int)))) : Value) rfl rfl rfl (fun _ => by kernel_rfl) ?_
        refine q_k (.bool (decide (i18_37 ≥ ((t46_22.n : Int)))) : Value) rfl rfl rfl (fun _ => by kernel_rfl) ?_
        refine q_k (.bool (decide (i18_37 ≥ ((t46_22.n : Int)))) : Value) rfl rfl rfl (fun _ => by kernel_rfl) ?_
        refine q_fork (decide (i18_37 ≥ ((t46_22.n : Int)))) (fun hb35 => ?_) (fun hb35 => ?_)
        · replace h := h.1 (of_decide_eq_true hb35)
          refine q_frame (upd_id (i := 84) (v := .bool true) rfl (congrArg Value.bool hb35)) ?_
          refine q_gno rfl rfl rfl rfl ?_
          refine q_gno rfl rfl rfl rfl ?_
          refine q_gno rfl rfl rfl rfl ?_
          refine q_gno rfl rfl rfl rfl ?_
          refine q_gno rfl rfl rfl rfl ?_
          refine q_gno rfl rfl rfl rfl ?_
          refine q_gno rfl rfl rfl rfl ?_
          refine q_gno rfl rfl rfl rfl ?_
          refine q_gno rfl rfl rfl rfl ?_
          refine q_k (.bool true : Value) rfl rfl rfl (fun _ => by kernel_rfl) ?_
          refine q_nil (hQq31 _ fun m37 => ?_)
          replace h := h _ ⟨m37, rfl⟩
          generalize w_38.drewN m37 = w_40 at h ⊢
          refine y_then (hK30 _ _ ?_)
          refine y_cond_t rfl rfl ?_
          refine y_seq fun K36 hK36 => ?_
          refine y_region ?_
          refine y_k (.bool false : Value) w_40 rfl rfl rfl (by kernel_rfl) ?_
          refine y_nil ?_
          refine y_then (hK36 _ _ ?_)
          refine y_ret ?_
          repeat (first | refine e_then_r ?_ | refine e_block_r ?_)
          exact (hQ0 _ _ _ (res1 (v := (.bool false : Value)) rfl rfl rfl) ⟨_, rfl, h⟩).1
        · replace h := h.2 (of_decide_eq_false hb35)
          refine q_frame (upd_id (i := 84) (v := .bool false) rfl (congrArg Value.bool hb35)) ?_
          refine q_gyes rfl rfl rfl ?_
          refine q_k (.slice t40_19.a t40_19.n t40_19.c : Value) rfl rfl rfl (fun _ => by kernel_rfl) ?_
          refine q_gyes rfl rfl rfl ?_
          refine q_k (.int .i64 i18_37 : Value) rfl rfl rfl (fun _ => by kernel_rfl) ?_
          refine q_gyes rfl rfl rfl ?_
          obtain ⟨hx38a, hx38b, a_41, hx38, h⟩ := h
          refine q_v (v := (.pointer (some (a_41.add (Int.toNat i18_37))) : Value)) (s := Instr.indexAt 33 (.slice t40_19.a t40_19.n t40_19.c : Value) (.int .i64 i18_37 : Value)) rfl rfl rfl (by kernel_rfl) (fun _ => run_ixs1 (el := 5) (by kernel_rfl) (by kernel_rfl) hx38 hx38a hx38b) ?_
          refine q_gyes rfl rfl rfl ?_
          obtain ⟨t88_42, hx39, h⟩ := h
          refine q_v (v := (.int .u8 t88_42 : Value)) (s := Instr.loadAt 5 (.pointer (some (a_41.add (Int.toNat i18_37))))) rfl rfl rfl (by kernel_rfl) (fun _ => rn_load (by kernel_rfl) hx39) ?_
          refine q_gyes rfl rfl rfl ?_
          refine q_k (.slice t46_22.a t46_22.n t46_22.c : Value) rfl rfl rfl (fun _ => by kernel_rfl) ?_
          refine q_gyes rfl rfl rfl ?_
          refine q_k (.int .i64 i18_37 : Value) rfl rfl rfl (fun _ => by kernel_rfl) ?_
          refine q_gyes rfl rfl rfl ?_
          obtain ⟨hx40a, hx40b, a_43, hx40, h⟩ := h
          refine q_v (v := (.pointer (some (a_43.add (Int.toNat i18_37))) : Value)) (s := Instr.indexAt 33 (.slice t46_22.a t46_22.n t46_22.c : Value) (.int .i64 i18_37 : Value)) rfl rfl rfl (by kernel_rfl) (fun _ => run_ixs1 (el := 5) (by kernel_rfl) (by kernel_rfl) hx40 hx40a hx40b) ?_
          refine q_gyes rfl rfl rfl ?_
          obtain ⟨t92_44, hx41, h⟩ := h
          refine q_v (v := (.int .u8 t92_44 : Value)) (s := Instr.loadAt 5 (.pointer (some (a_43.add (Int.toNat i18_37))))) rfl rfl rfl (by kernel_rfl) (fun _ => rn_load (by kernel_rfl) hx41) ?_
          refine q_gyes rfl rfl rfl ?_
          refine q_k (.bool ((t88_42 != t92_44)) : Value) rfl rfl rfl (fun _ => by kernel_rfl) ?_
          refine q_k (.bool ((t88_42 != t92_44)) : Value) rfl rfl rfl (fun _ => by kernel_rfl) ?_
          refine q_nil (hQq31 _ fun m46 => ?_)
          replace h := h _ ⟨m46, rfl⟩
          generalize w_38.drewN m46 = w_45 at h ⊢
          refine y_then (hK30 _ _ ?_)
          refine y_cond ((t88_42 != t92_44)) rfl rfl (fun hb45 => ?_) (fun hb45 => ?_)
          · replace h := h.1 (bne_iff_ne.mp hb45)
            refine y_seq fun K42 hK42 => ?_
            refine y_region ?_
            refine y_k (.bool false : Value) w_45 rfl rfl rfl (by kernel_rfl) ?_
            refine y_nil ?_
            refine y_then (hK42 _ _ ?_)
            refine y_ret ?_
            repeat (first | refine e_then_r ?_ | refine e_block_r ?_)
            exact (hQ0 _ _ _ (res1 (v := (.bool false : Value)) rfl rfl rfl) ⟨_, rfl, h⟩).1
          · replace h := h.2 (bne_eq_false_iff_eq.mp hb45)
            refine y_skip ?_
            refine y_then (hK29 _ _ ?_)
            refine y_region ?_
            refine y_k (.slice t40_19.a t40_19.n t40_19.c : Value) w_45 rfl rfl rfl (by kernel_rfl) ?_
            refine y_k (.int .i64 i18_37 : Value) w_45 rfl rfl rfl (by kernel_rfl) ?_
            obtain ⟨hx43a, hx43b, a_46, hx43, h⟩ := h
            refine y_v (v := (.pointer (some (a_46.add (Int.toNat i18_37))) : Value)) (s := Instr.indexAt 33 (.slice t40_19.a t40_19.n t40_19.c : Value) (.int .i64 i18_37 : Value)) rfl rfl rfl (by kernel_rfl) (run_ixs1 (el := 5) (by kernel_rfl) (by kernel_rfl) hx43 hx43a hx43b) ?_
            obtain ⟨hx44, h⟩ := h
            replace h := h _ rfl
            refine y_u (s := Instr.storeAt 5 (.pointer (some (a_46.add (Int.toNat i18_37)))) (.int .u8 7 : Value)) rfl rfl (by kernel_rfl) (rn_store1 (by kernel_rfl) rfl hx44) ?_
            generalize w_45.setCell (a_46.add (Int.toNat i18_37)) (.int .u8 7 : Value) = w_47 at h ⊢
            refine y_nil ?_
            refine e_block_n ?_
            refine y_then (hK27 _ _ ?_)
            refine y_region ?_
            refine y_k (.int .i64 i18_37 : Value) w_47 rfl rfl rfl (by kernel_rfl) ?_
            refine y_k (.int .i64 (IntKind.i64.wrap (i18_37 + 1)) : Value) w_47 rfl rfl rfl (by kernel_rfl) ?_
            refine y_k (.int .i64 (IntKind.i64.wrap (i18_37 + 1)) : Value) w_47 rfl rfl rfl (by kernel_rfl) ?_
            refine y_nil ?_
            refine y_then (hN24 (IntKind.i64.wrap (i18_37 + 1)) _ _ h ?_)
            dsimp only
            refine upd_id ?_ rfl
            refine upd_id ?_ rfl
            refine upd_id ?_ rfl
            refine upd_id ?_ rfl
            refine upd_id ?_ rfl
            refine upd_id ?_ rfl
            refine upd_id ?_ rfl
            refine upd_id ?_ rfl
            refine upd_id ?_ rfl
            refine upd_id ?_ rfl
            refine upd_id ?_ rfl
            refine upd_id ?_ rfl
            rfl
    · replace h := h.2 (of_decide_eq_false hb65)
      refine y_exit ?_
      repeat (first | refine e_then_x ?_ | refine e_block_y rfl ?_)
      refine e_block_x ?_
      refine y_then (hK20 _ _ ?_)
      refine y_seq fun K47 hK47 => ?_
      refine y_seq fun K48 hK48 => ?_
      refine y_region ?_
      refine y_k (.slice t40_19.a t40_19.n t40_19.c : Value) w_38 rfl rfl rfl (by kernel_rfl) ?_
      refine y_k (.int .i64 ((t40_19.n : Int)) : Value) w_38 rfl rfl rfl (by kernel_rfl) ?_
      refine y_k (.slice t46_22.a t46_22.n t46_22.c : Value) w_38 rfl rfl rfl (by kernel_rfl) ?_
      refine y_k (.int .i64 ((t46_22.n : Int)) : Value) w_38 rfl rfl rfl (by kernel_rfl) ?_
      refine y_k (.bool (((((t40_19.n : Int))) != (((t46_22.n : Int))))) : Value) w_38 rfl rfl rfl (by kernel_rfl) ?_
      refine y_k (.bool (((((t40_19.n : Int))) != (((t46_22.n : Int))))) : Value) w_38 rfl rfl rfl (by kernel_rfl) ?_
      refine y_fork (((((t40_19.n : Int))) != (((t46_22.n : Int))))) (fun hb49 => ?_) (fun hb49 => ?_)
      · replace h := h.1 (bne_iff_ne.mp hb49)
        refine y_frame (upd_id (i := 103) (v := .bool true) rfl (congrArg Value.bool hb49)) ?_
        refine y_gno rfl rfl rfl rfl ?_
        refine y_gno rfl rfl rfl rfl ?_
        refine y_gno rfl rfl rfl rfl ?_
        refine y_k (.bool true : Value) w_38 rfl rfl rfl (by kernel_rfl) ?_
        refine y_k (.bool true : Value) w_38 rfl rfl rfl (by kernel_rfl) ?_
        refine y_gno rfl rfl rfl rfl ?_
        refine y_gno rfl rfl rfl rfl ?_
        refine y_gno rfl rfl rfl rfl ?_
        refine y_k (.bool true : Value) w_38 rfl rfl rfl (by kernel_rfl) ?_
        refine y_k (.bool true : Value) w_38 rfl rfl rfl (by kernel_rfl) ?_
        refine y_gno rfl rfl rfl rfl ?_
        refine y_gno rfl rfl rfl rfl ?_
        refine y_k (.bool true : Value) w_38 rfl rfl rfl (by kernel_rfl) ?_
        refine y_k (.bool true : Value) w_38 rfl rfl rfl (by kernel_rfl) ?_
        refine y_gno rfl rfl rfl rfl ?_
        refine y_gno rfl rfl rfl rfl ?_
        refine y_k (.bool true : Value) w_38 rfl rfl rfl (by kernel_rfl) ?_
        refine y_nil ?_
        refine y_then (hK48 _ _ ?_)
        refine y_cond_t rfl rfl ?_
        refine y_seq fun K50 hK50 => ?_
        refine y_region ?_
        refine y_k (.bool false : Value) w_38 rfl rfl rfl (by kernel_rfl) ?_
        refine y_nil ?_
        refine y_then (hK50 _ _ ?_)
        refine y_ret ?_
        repeat (first | refine e_then_r ?_ | refine e_block_r ?_)
        exact (hQ0 _ _ _ (res1 (v := (.bool false : Value)) rfl rfl rfl) ⟨_, rfl, h⟩).1
      · replace h := h.2 (bne_eq_false_iff_eq.mp hb49)
        refine y_frame (upd_id (i := 103) (v := .bool false) rfl (congrArg Value.bool hb49)) ?_
        refine y_gyes rfl rfl rfl ?_
        refine y_k (.bool t40_20 : Value) w_38 rfl rfl rfl (by kernel_rfl) ?_
        refine y_gyes rfl rfl rfl ?_
        refine y_k (.bool t46_23 : Value) w_38 rfl rfl rfl (by kernel_rfl) ?_
        refine y_gyes rfl rfl rfl ?_
        obtain ⟨t106_48, hx51, h⟩ := h
        refine y_v (s := do eqGuard .neq 4 (Operand.tmp 104) (Operand.tmp 105) (.bool t40_20 : Value) (.bool t46_23 : Value); binOp .neq 4 (.bool t40_20 : Value) (.bool t46_23 : Value)) rfl rfl rfl (by kernel_rfl) (hx51) ?_
        refine y_k (.bool t106_48 : Value) w_38 rfl rfl rfl (by kernel_rfl) ?_
        refine y_k (.bool t106_48 : Value) w_38 rfl rfl rfl (by kernel_rfl) ?_
        refine y_fork (t106_48) (fun hb52 => ?_) (fun hb52 => ?_)
        · replace h := h.1 (hb52)
          refine y_frame (upd_id (i := 108) (v := .bool true) rfl (congrArg Value.bool hb52)) ?_
          refine y_gno rfl rfl rfl rfl ?_
          refine y_gno rfl rfl rfl rfl ?_
          refine y_gno rfl rfl rfl rfl ?_
          refine y_k (.bool true : Value) w_38 rfl rfl rfl (by kernel_rfl) ?_
          refine y_k (.bool true : Value) w_38 rfl rfl rfl (by kernel_rfl) ?_
          refine y_gno rfl rfl rfl rfl ?_
          refine y_gno rfl rfl rfl rfl ?_
          refine y_k (.bool true : Value) w_38 rfl rfl rfl (by kernel_rfl) ?_
          refine y_k (.bool true : Value) w_38 rfl rfl rfl (by kernel_rfl) ?_
          refine y_gno rfl rfl rfl rfl ?_
          refine y_gno rfl rfl rfl rfl ?_
          refine y_k (.bool true : Value) w_38 rfl rfl rfl (by kernel_rfl) ?_
          refine y_nil ?_
          refine y_then (hK48 _ _ ?_)
          refine y_cond_t rfl rfl ?_
          refine y_seq fun K53 hK53 => ?_
          refine y_region ?_
          refine y_k (.bool false : Value) w_38 rfl rfl rfl (by kernel_rfl) ?_
          refine y_nil ?_
          refine y_then (hK53 _ _ ?_)
          refine y_ret ?_
          repeat (first | refine e_then_r ?_ | refine e_block_r ?_)
          exact (hQ0 _ _ _ (res1 (v := (.bool false : Value)) rfl rfl rfl) ⟨_, rfl, h⟩).1
        · replace h := h.2 (hb52)
          refine y_frame (upd_id (i := 108) (v := .bool false) rfl (congrArg Value.bool hb52)) ?_
          refine y_gyes rfl rfl rfl ?_
          refine y_k (.int .i64 t54_27 : Value) w_38 rfl rfl rfl (by kernel_rfl) ?_
          refine y_gyes rfl rfl rfl ?_
          refine y_k (.int .i64 t59_30 : Value) w_38 rfl rfl rfl (by kernel_rfl) ?_
          refine y_gyes rfl rfl rfl ?_
          refine y_k (.bool ((t54_27 != t59_30)) : Value) w_38 rfl rfl rfl (by kernel_rfl) ?_
          refine y_k (.bool ((t54_27 != t59_30)) : Value) w_38 rfl rfl rfl (by kernel_rfl) ?_
          refine y_k (.bool ((t54_27 != t59_30)) : Value) w_38 rfl rfl rfl (by kernel_rfl) ?_
          refine y_fork ((t54_27 != t59_30)) (fun hb54 => ?_) (fun hb54 => ?_)
          · replace h := h.1 (bne_iff_ne.mp hb54)
            refine y_frame (upd_id (i := 113) (v := .bool true) rfl (congrArg Value.bool hb54)) ?_
            refine y_gno rfl rfl rfl rfl ?_
            refine y_gno rfl rfl rfl rfl ?_
            refine y_k (.bool true : Value) w_38 rfl rfl rfl (by kernel_rfl) ?_
            refine y_k (.bool true : Value) w_38 rfl rfl rfl (by kernel_rfl) ?_
            refine y_gno rfl rfl rfl rfl ?_
            refine y_gno rfl rfl rfl rfl ?_
            refine y_k (.bool true : Value) w_38 rfl rfl rfl (by kernel_rfl) ?_
            refine y_nil ?_
            refine y_then (hK48 _ _ ?_)
            refine y_cond_t rfl rfl ?_
            refine y_seq fun K55 hK55 => ?_
            refine y_region ?_
            refine y_k (.bool false : Value) w_38 rfl rfl rfl (by kernel_rfl) ?_
            refine y_nil ?_
            refine y_then (hK55 _ _ ?_)
            refine y_ret ?_
            repeat (first | refine e_then_r ?_ | refine e_block_r ?_)
            exact (hQ0 _ _ _ (res1 (v := (.bool false : Value)) rfl rfl rfl) ⟨_, rfl, h⟩).1
          · replace h := h.2 (bne_eq_false_iff_eq.mp hb54)
            refine y_frame (upd_id (i := 113) (v := .bool false) rfl (congrArg Value.bool hb54)) ?_
            refine y_gyes rfl rfl rfl ?_
            refine y_k (.bool t64_32 : Value) w_38 rfl rfl rfl (by kernel_rfl) ?_
            refine y_gyes rfl rfl rfl ?_
            refine y_k (.bool (!(t64_32)) : Value) w_38 rfl rfl rfl (by kernel_rfl) ?_
            refine y_k (.bool (!(t64_32)) : Value) w_38 rfl rfl rfl (by kernel_rfl) ?_
            refine y_k (.bool (!(t64_32)) : Value) w_38 rfl rfl rfl (by kernel_rfl) ?_
            refine y_fork (!(t64_32)) (fun hb56 => ?_) (fun hb56 => ?_)
            · replace h := h.1 ((not_true_of hb56))
              refine y_frame (upd_id (i := 117) (v := .bool true) rfl (congrArg Value.bool hb56)) ?_
              refine y_gno rfl rfl rfl rfl ?_
              refine y_gno rfl rfl rfl rfl ?_
              refine y_k (.bool true : Value) w_38 rfl rfl rfl (by kernel_rfl) ?_
              refine y_nil ?_
              refine y_then (hK48 _ _ ?_)
              refine y_cond_t rfl rfl ?_
              refine y_seq fun K57 hK57 => ?_
              refine y_region ?_
              refine y_k (.bool false : Value) w_38 rfl rfl rfl (by kernel_rfl) ?_
              refine y_nil ?_
              refine y_then (hK57 _ _ ?_)
              refine y_ret ?_
              repeat (first | refine e_then_r ?_ | refine e_block_r ?_)
              exact (hQ0 _ _ _ (res1 (v := (.bool false : Value)) rfl rfl rfl) ⟨_, rfl, h⟩).1
            · replace h := h.2 ((not_false_of hb56))
              refine y_frame (upd_id (i := 117) (v := .bool false) rfl (congrArg Value.bool hb56)) ?_
              refine y_gyes rfl rfl rfl ?_
              refine y_k (.bool t67_34 : Value) w_38 rfl rfl rfl (by kernel_rfl) ?_
              refine y_gyes rfl rfl rfl ?_
              refine y_k (.bool (!(t67_34)) : Value) w_38 rfl rfl rfl (by kernel_rfl) ?_
              refine y_k (.bool (!(t67_34)) : Value) w_38 rfl rfl rfl (by kernel_rfl) ?_
              refine y_nil ?_
              refine y_then (hK48 _ _ ?_)
              refine y_cond (!(t67_34)) rfl rfl (fun hb64 => ?_) (fun hb64 => ?_)
              · replace h := h.1 ((not_true_of hb64))
                refine y_seq fun K58 hK58 => ?_
                refine y_region ?_
                refine y_k (.bool false : Value) w_38 rfl rfl rfl (by kernel_rfl) ?_
                refine y_nil ?_
                refine y_then (hK58 _ _ ?_)
                refine y_ret ?_
                repeat (first | refine e_then_r ?_ | refine e_block_r ?_)
                exact (hQ0 _ _ _ (res1 (v := (.bool false : Value)) rfl rfl rfl) ⟨_, rfl, h⟩).1
              · replace h := h.2 ((not_false_of hb64))
                refine y_skip ?_
                refine y_then (hK47 _ _ ?_)
                refine y_seq fun K59 hK59 => ?_
                have hjK59 : ∀ (f : Fr) (t4_52 : Bool) (w_53 : World), f 4 = (.bool t4_52 : Value) → F4_j3 K t4_52 w_53 → WK K59 130 f w_53 := by
                  intro f t4_52 w_53 e4 h
                  refine y_atf (upd_id rfl e4) ?_
                  clear e4
                  unfold F4_j3 at h
                  refine hK59 _ _ ?_
                  refine y_ret ?_
                  repeat (first | refine e_then_r ?_ | refine e_block_r ?_)
                  exact (hQ0 _ _ _ (res1 (v := (.bool t4_52 : Value)) rfl rfl rfl) ⟨_, rfl, h⟩).1
                refine y_region ?_
                refine y_k (.bool t19_3 : Value) w_38 rfl rfl rfl (by kernel_rfl) ?_
                refine y_k (.bool t19_3 : Value) w_38 rfl rfl rfl (by kernel_rfl) ?_
                refine y_fork (t19_3) (fun hb60 => ?_) (fun hb60 => ?_)
                · replace h := h.1 (hb60)
                  refine y_frame (upd_id (i := 122) (v := .bool true) rfl (congrArg Value.bool hb60)) ?_
                  refine y_gyes rfl rfl rfl ?_
                  refine y_k (.slice t31_14.a t31_14.n t31_14.c : Value) w_38 rfl rfl rfl (by kernel_rfl) ?_
                  refine y_gyes rfl rfl rfl ?_
                  obtain ⟨t124_49, hx61, h⟩ := h
                  refine y_v (s := convert 33 9 (.slice t31_14.a t31_14.n t31_14.c : Value)) rfl rfl rfl (by kernel_rfl) (hx61) ?_
                  refine y_gyes rfl rfl rfl ?_
                  refine y_k (.slice b0_8.a b0_8.n b0_8.c : Value) w_38 rfl rfl rfl (by kernel_rfl) ?_
                  refine y_gyes rfl rfl rfl ?_
                  obtain ⟨t126_50, hx62, h⟩ := h
                  refine y_v (s := convert 33 9 (.slice b0_8.a b0_8.n b0_8.c : Value)) rfl rfl rfl (by kernel_rfl) (hx62) ?_
                  refine y_gyes rfl rfl rfl ?_
                  obtain ⟨t127_51, hx63, h⟩ := h
                  refine y_v (s := do eqGuard .add 9 (Operand.tmp 126) (Operand.const (Value.string { data := #[1, 1, 1] })) (.string t126_50 : Value) (.string ((ByteArray.mk #[1, 1, 1])) : Value); binOp .add 9 (.string t126_50 : Value) (.string ((ByteArray.mk #[1, 1, 1])) : Value)) rfl rfl rfl (by kernel_rfl) (hx63) ?_
                  refine y_gyes rfl rfl rfl ?_
                  refine y_k (.bool ((t124_49.toList == t127_51.toList)) : Value) w_38 rfl rfl rfl (by kernel_rfl) ?_
                  refine y_k (.bool ((t124_49.toList == t127_51.toList)) : Value) w_38 rfl rfl rfl (by kernel_rfl) ?_
                  refine y_k (.bool ((t124_49.toList == t127_51.toList)) : Value) w_38 rfl rfl rfl (by kernel_rfl) ?_
                  refine y_nil ?_
                  exact y_then (hjK59 _ ((t124_49.toList == t127_51.toList)) w_38 rfl h)
                · replace h := h.2 (hb60)
                  refine y_frame (upd_id (i := 122) (v := .bool false) rfl (congrArg Value.bool hb60)) ?_
                  refine y_gno rfl rfl rfl rfl ?_
                  refine y_gno rfl rfl rfl rfl ?_
                  refine y_gno rfl rfl rfl rfl ?_
                  refine y_gno rfl rfl rfl rfl ?_
                  refine y_gno rfl rfl rfl rfl ?_
                  refine y_gno rfl rfl rfl rfl ?_
                  refine y_k (.bool false : Value) w_38 rfl rfl rfl (by kernel_rfl) ?_
                  refine y_k (.bool false : Value) w_38 rfl rfl rfl (by kernel_rfl) ?_
                  refine y_nil ?_
                  exact y_then (hjK59 _ false w_38 rfl h)
  refine y_seq fun K5 hK5 => ?_
  refine y_region ?_
  refine y_k (.slice b0_1.a b0_1.n b0_1.c : Value) w_6 rfl rfl rfl (by kernel_rfl) ?_
  refine y_k (.int .i64 ((b0_1.n : Int)) : Value) w_6 rfl rfl rfl (by kernel_rfl) ?_
  refine y_k (.bool (decide (((b0_1.n : Int)) > 4000)) : Value) w_6 rfl rfl rfl (by kernel_rfl) ?_
  refine y_nil ?_
  refine y_then (hK5 _ _ ?_)
  refine y_cond (decide (((b0_1.n : Int)) > 4000)) rfl rfl (fun hb66 => ?_) (fun hb66 => ?_)
  · replace h := h.1 (of_decide_eq_true hb66)
    refine y_region ?_
    refine y_k (.slice b0_1.a b0_1.n b0_1.c : Value) w_6 rfl rfl rfl (by kernel_rfl) ?_
    obtain ⟨t26_7, hx6, h⟩ := h
    refine y_v (s := Instr.sliceAt 33 (.slice b0_1.a b0_1.n b0_1.c : Value) none (some (.int .i64 4000 : Value)) none) rfl rfl rfl (by kernel_rfl) (hx6) ?_
    refine y_k (.slice t26_7.a t26_7.n t26_7.c : Value) w_6 rfl rfl rfl (by kernel_rfl) ?_
    refine y_nil ?_
    exact y_then (hjK4 _ t26_7 w_6 rfl rfl rfl h)
  · replace h := h.2 (of_decide_eq_false hb66)
    refine y_skip ?_
    exact y_then (hjK4 _ b0_1 w_6 rfl rfl rfl h)

end Go.Proofs.Ytjgijifankaglaa
