/- Printed by gen.py (own program, wip/): for each Go function a predicate transformer and its soundness. -/
import Derived.Test.YtjgijifankaglaaProg
import Derived.Test.YtjgijifankaglaaST
namespace Go.Proofs.Ytjgijifankaglaa
open Go Go.RowKit Go.Proofs.Ytjgijifankaglaa.SX
set_option linter.unusedVariables false

def F38_j1 (K : Bool → World → Prop) (t0_37 : Bool) (w_38 : World) : Prop :=
  K t0_37 w_38
/-- turnkey/turnkeylaw02.shown -/
def F38  (K : Bool → World → Prop) (w : World) : Prop :=
  Calls Try.prog 45 #[] w fun e w_2 => ∃ (t8_1 : Option Addr), e = .returned (.pointer t8_1 : Value) ∧
  ((t8_1.isNone = true →
  K false w_2) ∧
  (t8_1.isNone = false →
  ∀ (w_3 : World), w_3 = w_2.alloc (.cells #[.int .u8 97] 5) →
  ∃ (t13_4 : Sl), ∃ (w_5 : World), (convert 33 33 (.slice (some ⟨w_2.heap.size, 0, none⟩) 1 1 : Value)).run Try.prog w_3 = .ok (.slice t13_4.a t13_4.n t13_4.c : Value) w_5 ∧
  Calls Try.prog 47 #[.pointer t8_1, .slice t13_4.a t13_4.n t13_4.c] w_5 fun e w_6 => e = .returned (.tuple #[] : Value) ∧
  ∀ (w_7 : World), w_7 = w_6.alloc (.cells #[.int .u8 98, .int .u8 99] 5) →
  ∃ (t17_8 : Sl), ∃ (w_9 : World), (convert 33 33 (.slice (some ⟨w_6.heap.size, 0, none⟩) 2 2 : Value)).run Try.prog w_7 = .ok (.slice t17_8.a t17_8.n t17_8.c : Value) w_9 ∧
  Calls Try.prog 47 #[.pointer t8_1, .slice t17_8.a t17_8.n t17_8.c] w_9 fun e w_10 => e = .returned (.tuple #[] : Value) ∧
  Calls Try.prog 49 #[.pointer t8_1] w_10 fun e w_12 => ∃ (t20_11 : Value), e = .returned t20_11 ∧
  ∀ (w_13 : World), w_13 = w_12.alloc (.cells #[.int .u8 0, .int .u8 0, .int .u8 0, .int .u8 0, .int .u8 0, .int .u8 0, .int .u8 0, .int .u8 0, .int .u8 0, .int .u8 0, .int .u8 0, .int .u8 0, .int .u8 0, .int .u8 0, .int .u8 0, .int .u8 0, .int .u8 0, .int .u8 0, .int .u8 0, .int .u8 0, .int .u8 0, .int .u8 0, .int .u8 0, .int .u8 0, .int .u8 0, .int .u8 0, .int .u8 0, .int .u8 0, .int .u8 0, .int .u8 0, .int .u8 0, .int .u8 0] 50) →
  ∃ (w_14 : World), (Instr.storeAt 50 (.pointer (some (⟨w_12.heap.size, 0, none⟩ : Addr))) t20_11).run Try.prog w_13 = .ok () w_14 ∧
  Calls Try.prog 41 #[.slice none 0 0] w_14 fun e w_16 => ∃ (t21_15 : Value), e = .returned t21_15 ∧
  ∀ (w_17 : World), w_17 = w_16.alloc (.cells #[.int .u8 0, .int .u8 0, .int .u8 0, .int .u8 0, .int .u8 0, .int .u8 0, .int .u8 0, .int .u8 0, .int .u8 0, .int .u8 0, .int .u8 0, .int .u8 0, .int .u8 0, .int .u8 0, .int .u8 0, .int .u8 0, .int .u8 0, .int .u8 0, .int .u8 0, .int .u8 0, .int .u8 0, .int .u8 0, .int .u8 0, .int .u8 0, .int .u8 0, .int .u8 0, .int .u8 0, .int .u8 0, .int .u8 0, .int .u8 0, .int .u8 0, .int .u8 0] 50) →
  ∃ (w_18 : World), (Instr.storeAt 50 (.pointer (some (⟨w_16.heap.size, 0, none⟩ : Addr))) t21_15).run Try.prog w_17 = .ok () w_18 ∧
  Calls Try.prog 52 #[.string ((ByteArray.mk #[48, 48, 102, 102]))] w_18 fun e w_21 => ∃ (t23_19 : Sl), ∃ (t23_20 : Bool), e = .returned (.tuple #[.slice t23_19.a t23_19.n t23_19.c, .bool t23_20] : Value) ∧
  Calls Try.prog 52 #[.string ((ByteArray.mk #[48, 48, 102, 70]))] w_21 fun e w_24 => ∃ (t27_22 : Sl), ∃ (t27_23 : Bool), e = .returned (.tuple #[.slice t27_22.a t27_22.n t27_22.c, .bool t27_23] : Value) ∧
  ∀ (w_25 : World), w_25 = w_24.alloc (.cells #[.int .u8 49, .int .u8 50, .int .u8 51, .int .u8 52, .int .u8 53, .int .u8 54, .int .u8 55, .int .u8 56, .int .u8 57] 5) →
  ∃ (t31_26 : Sl), ∃ (w_27 : World), (convert 33 33 (.slice (some ⟨w_24.heap.size, 0, none⟩) 9 9 : Value)).run Try.prog w_25 = .ok (.slice t31_26.a t31_26.n t31_26.c : Value) w_27 ∧
  Calls Try.prog 40 #[.slice t31_26.a t31_26.n t31_26.c] w_27 fun e w_29 => ∃ (t32_28 : Int), e = .returned (.int .u32 t32_28 : Value) ∧
  ((t32_28 = 3421780262 →
  ∃ (t35_30 : Sl), (Instr.sliceAt 50 (.pointer (some (⟨w_12.heap.size, 0, none⟩ : Addr)) : Value) none none none).run Try.prog w_29 = .ok (.slice t35_30.a t35_30.n t35_30.c : Value) w_29 ∧
  Calls Try.prog 51 #[.slice t35_30.a t35_30.n t35_30.c] w_29 fun e w_32 => ∃ (t36_31 : ByteArray), e = .returned (.string t36_31 : Value) ∧
  ((t36_31.toList = (((ByteArray.mk #[98, 97, 55, 56, 49, 54, 98, 102, 56, 102, 48, 49, 99, 102, 101, 97, 52, 49, 52, 49, 52, 48, 100, 101, 53, 100, 97, 101, 50, 50, 50, 51, 98, 48, 48, 51, 54, 49, 97, 51, 57, 54, 49, 55, 55, 97, 57, 99, 98, 52, 49, 48, 102, 102, 54, 49, 102, 50, 48, 48, 49, 53, 97, 100])).toList) →
  ∃ (t40_33 : Sl), (Instr.sliceAt 50 (.pointer (some (⟨w_16.heap.size, 0, none⟩ : Addr)) : Value) none none none).run Try.prog w_32 = .ok (.slice t40_33.a t40_33.n t40_33.c : Value) w_32 ∧
  Calls Try.prog 51 #[.slice t40_33.a t40_33.n t40_33.c] w_32 fun e w_35 => ∃ (t41_34 : ByteArray), e = .returned (.string t41_34 : Value) ∧
  ((t41_34.toList = (((ByteArray.mk #[101, 51, 98, 48, 99, 52, 52, 50, 57, 56, 102, 99, 49, 99, 49, 52, 57, 97, 102, 98, 102, 52, 99, 56, 57, 57, 54, 102, 98, 57, 50, 52, 50, 55, 97, 101, 52, 49, 101, 52, 54, 52, 57, 98, 57, 51, 52, 99, 97, 52, 57, 53, 57, 57, 49, 98, 55, 56, 53, 50, 98, 56, 53, 53])).toList) →
  ((t23_20 = true →
  ∃ (t49_36 : ByteArray), (convert 33 9 (.slice t23_19.a t23_19.n t23_19.c : Value)).run Try.prog w_35 = .ok (.string t49_36 : Value) w_35 ∧
  ((t49_36.toList = (((ByteArray.mk #[0, 255])).toList) →
  F38_j1 K (!(t27_23)) w_35) ∧
  (¬ t49_36.toList = (((ByteArray.mk #[0, 255])).toList) →
  F38_j1 K false w_35))) ∧
  (t23_20 = false →
  F38_j1 K false w_35))) ∧
  (¬ t41_34.toList = (((ByteArray.mk #[101, 51, 98, 48, 99, 52, 52, 50, 57, 56, 102, 99, 49, 99, 49, 52, 57, 97, 102, 98, 102, 52, 99, 56, 57, 57, 54, 102, 98, 57, 50, 52, 50, 55, 97, 101, 52, 49, 101, 52, 54, 52, 57, 98, 57, 51, 52, 99, 97, 52, 57, 53, 57, 57, 49, 98, 55, 56, 53, 50, 98, 56, 53, 53])).toList) →
  F38_j1 K false w_35))) ∧
  (¬ t36_31.toList = (((ByteArray.mk #[98, 97, 55, 56, 49, 54, 98, 102, 56, 102, 48, 49, 99, 102, 101, 97, 52, 49, 52, 49, 52, 48, 100, 101, 53, 100, 97, 101, 50, 50, 50, 51, 98, 48, 48, 51, 54, 49, 97, 51, 57, 54, 49, 55, 55, 97, 57, 99, 98, 52, 49, 48, 102, 102, 54, 49, 102, 50, 48, 48, 49, 53, 97, 100])).toList) →
  F38_j1 K false w_32))) ∧
  (¬ t32_28 = 3421780262 →
  F38_j1 K false w_29))))
set_option maxHeartbeats 4000000 in
set_option maxRecDepth 20000 in
theorem F38_sound  (K : Bool → World → Prop) (w : World) (h : F38  K w) :
    Calls Try.prog 38 #[] w (fun e w1 => ∃ (r0 : Bool), e = .returned (.bool r0 : Value) ∧ K r0 w1) := by
  unfold F38 at h
  refine y_enter (n := 56) (args := []) Try.func38 rfl rfl rfl fun Q0 hQ0 => ?_
  refine y_seq fun K1 hK1 => ?_
  refine y_region ?_
  refine y_k (.bool false : Value) w rfl rfl rfl (by kernel_rfl) ?_
  refine y_nil ?_
  refine y_then (hK1 _ _ ?_)
  refine y_seq fun K2 hK2 => ?_
  refine y_region ?_
  refine y_call rfl rfl rfl (by kernel_rfl) (h.mono ?_)
  rintro _ w_2 ⟨t8_1, rfl, h⟩
  refine ⟨_, rfl, ?_⟩
  refine y_k (.pointer t8_1 : Value) w_2 rfl rfl rfl (by kernel_rfl) ?_
  refine y_nil ?_
  refine y_then (hK2 _ _ ?_)
  refine y_seq fun K3 hK3 => ?_
  refine y_seq fun K4 hK4 => ?_
  refine y_region ?_
  refine y_k (.pointer t8_1 : Value) w_2 rfl rfl rfl (by kernel_rfl) ?_
  refine y_v (v := (.bool t8_1.isNone : Value)) (s := do eqGuard .eql 55 (Operand.tmp 9) (Operand.const (Value.pointer none)) (.pointer t8_1 : Value) (.pointer none : Value); binOp .eql 55 (.pointer t8_1 : Value) (.pointer none : Value)) rfl rfl rfl (by kernel_rfl) (run_eql_ptrnil (by kernel_rfl)) ?_
  refine y_nil ?_
  refine y_then (hK4 _ _ ?_)
  refine y_cond (t8_1.isNone) rfl rfl (fun hb26 => ?_) (fun hb26 => ?_)
  · replace h := h.1 (hb26)
    refine y_seq fun K5 hK5 => ?_
    refine y_region ?_
    refine y_k (.bool false : Value) w_2 rfl rfl rfl (by kernel_rfl) ?_
    refine y_nil ?_
    refine y_then (hK5 _ _ ?_)
    refine y_ret ?_
    repeat (first | refine e_then_r ?_ | refine e_block_r ?_)
    exact (hQ0 _ _ _ (res1 (v := (.bool false : Value)) rfl rfl rfl) ⟨_, rfl, h⟩).1
  · replace h := h.2 (hb26)
    refine y_skip ?_
    refine y_then (hK3 _ _ ?_)
    refine y_seq fun K6 hK6 => ?_
    refine y_region ?_
    refine y_k (.pointer t8_1 : Value) w_2 rfl rfl rfl (by kernel_rfl) ?_
    refine y_k (.slice (some ⟨w_2.heap.size, 0, none⟩) 1 1 : Value) (w_2.alloc (.cells #[.int .u8 97] 5)) rfl rfl rfl (by kernel_rfl) ?_
    replace h := h _ rfl
    generalize w_2.alloc (.cells #[.int .u8 97] 5) = w_3 at h ⊢
    obtain ⟨t13_4, w_5, hx7, h⟩ := h
    refine y_v (s := convert 33 33 (.slice (some ⟨w_2.heap.size, 0, none⟩) 1 1 : Value)) rfl rfl rfl (by kernel_rfl) hx7 ?_
    refine y_call rfl rfl rfl (by kernel_rfl) (h.mono ?_)
    rintro _ w_6 ⟨rfl, h⟩
    refine ⟨_, rfl, ?_⟩
    refine y_nil ?_
    refine y_then (hK6 _ _ ?_)
    refine y_seq fun K8 hK8 => ?_
    refine y_region ?_
    refine y_k (.pointer t8_1 : Value) w_6 rfl rfl rfl (by kernel_rfl) ?_
    refine y_k (.slice (some ⟨w_6.heap.size, 0, none⟩) 2 2 : Value) (w_6.alloc (.cells #[.int .u8 98, .int .u8 99] 5)) rfl rfl rfl (by kernel_rfl) ?_
    replace h := h _ rfl
    generalize w_6.alloc (.cells #[.int .u8 98, .int .u8 99] 5) = w_7 at h ⊢
    obtain ⟨t17_8, w_9, hx9, h⟩ := h
    refine y_v (s := convert 33 33 (.slice (some ⟨w_6.heap.size, 0, none⟩) 2 2 : Value)) rfl rfl rfl (by kernel_rfl) hx9 ?_
    refine y_call rfl rfl rfl (by kernel_rfl) (h.mono ?_)
    rintro _ w_10 ⟨rfl, h⟩
    refine ⟨_, rfl, ?_⟩
    refine y_nil ?_
    refine y_then (hK8 _ _ ?_)
    refine y_seq fun K10 hK10 => ?_
    refine y_region ?_
    refine y_k (.pointer t8_1 : Value) w_10 rfl rfl rfl (by kernel_rfl) ?_
    refine y_call rfl rfl rfl (by kernel_rfl) (h.mono ?_)
    rintro _ w_12 ⟨t20_11, rfl, h⟩
    refine ⟨_, rfl, ?_⟩
    refine y_k (.pointer (some (⟨w_12.heap.size, 0, none⟩ : Addr)) : Value) (w_12.alloc (.cells #[.int .u8 0, .int .u8 0, .int .u8 0, .int .u8 0, .int .u8 0, .int .u8 0, .int .u8 0, .int .u8 0, .int .u8 0, .int .u8 0, .int .u8 0, .int .u8 0, .int .u8 0, .int .u8 0, .int .u8 0, .int .u8 0, .int .u8 0, .int .u8 0, .int .u8 0, .int .u8 0, .int .u8 0, .int .u8 0, .int .u8 0, .int .u8 0, .int .u8 0, .int .u8 0, .int .u8 0, .int .u8 0, .int .u8 0, .int .u8 0, .int .u8 0, .int .u8 0] 50)) rfl rfl rfl (by kernel_rfl) ?_
    replace h := h _ rfl
    generalize w_12.alloc (.cells #[.int .u8 0, .int .u8 0, .int .u8 0, .int .u8 0, .int .u8 0, .int .u8 0, .int .u8 0, .int .u8 0, .int .u8 0, .int .u8 0, .int .u8 0, .int .u8 0, .int .u8 0, .int .u8 0, .int .u8 0, .int .u8 0, .int .u8 0, .int .u8 0, .int .u8 0, .int .u8 0, .int .u8 0, .int .u8 0, .int .u8 0, .int .u8 0, .int .u8 0, .int .u8 0, .int .u8 0, .int .u8 0, .int .u8 0, .int .u8 0, .int .u8 0, .int .u8 0] 50) = w_13 at h ⊢
    obtain ⟨w_14, hx11, h⟩ := h
    refine y_u (s := Instr.storeAt 50 (.pointer (some (⟨w_12.heap.size, 0, none⟩ : Addr))) t20_11) rfl rfl (by kernel_rfl) hx11 ?_
    refine y_nil ?_
    refine y_then (hK10 _ _ ?_)
    refine y_seq fun K12 hK12 => ?_
    refine y_region ?_
    refine y_call rfl rfl rfl (by kernel_rfl) (h.mono ?_)
    rintro _ w_16 ⟨t21_15, rfl, h⟩
    refine ⟨_, rfl, ?_⟩
    refine y_k (.pointer (some (⟨w_16.heap.size, 0, none⟩ : Addr)) : Value) (w_16.alloc (.cells #[.int .u8 0, .int .u8 0, .int .u8 0, .int .u8 0, .int .u8 0, .int .u8 0, .int .u8 0, .int .u8 0, .int .u8 0, .int .u8 0, .int .u8 0, .int .u8 0, .int .u8 0, .int .u8 0, .int .u8 0, .int .u8 0, .int .u8 0, .int .u8 0, .int .u8 0, .int .u8 0, .int .u8 0, .int .u8 0, .int .u8 0, .int .u8 0, .int .u8 0, .int .u8 0, .int .u8 0, .int .u8 0, .int .u8 0, .int .u8 0, .int .u8 0, .int .u8 0] 50)) rfl rfl rfl (by kernel_rfl) ?_
    replace h := h _ rfl
    generalize w_16.alloc (.cells #[.int .u8 0, .int .u8 0, .int .u8 0, .int .u8 0, .int .u8 0, .int .u8 0, .int .u8 0, .int .u8 0, .int .u8 0, .int .u8 0, .int .u8 0, .int .u8 0, .int .u8 0, .int .u8 0, .int .u8 0, .int .u8 0, .int .u8 0, .int .u8 0, .int .u8 0, .int .u8 0, .int .u8 0, .int .u8 0, .int .u8 0, .int .u8 0, .int .u8 0, .int .u8 0, .int .u8 0, .int .u8 0, .int .u8 0, .int .u8 0, .int .u8 0, .int .u8 0] 50) = w_17 at h ⊢
    obtain ⟨w_18, hx13, h⟩ := h
    refine y_u (s := Instr.storeAt 50 (.pointer (some (⟨w_16.heap.size, 0, none⟩ : Addr))) t21_15) rfl rfl (by kernel_rfl) hx13 ?_
    refine y_nil ?_
    refine y_then (hK12 _ _ ?_)
    refine y_seq fun K14 hK14 => ?_
    refine y_region ?_
    refine y_call rfl rfl rfl (by kernel_rfl) (h.mono ?_)
    rintro _ w_21 ⟨t23_19, t23_20, rfl, h⟩
    refine ⟨_, rfl, ?_⟩
    refine y_k (.tuple #[.slice t23_19.a t23_19.n t23_19.c, .bool t23_20] : Value) w_21 rfl rfl rfl (by kernel_rfl) ?_
    refine y_k (.slice t23_19.a t23_19.n t23_19.c : Value) w_21 rfl rfl rfl (by kernel_rfl) ?_
    refine y_k (.bool t23_20 : Value) w_21 rfl rfl rfl (by kernel_rfl) ?_
    refine y_k (.slice t23_19.a t23_19.n t23_19.c : Value) w_21 rfl rfl rfl (by kernel_rfl) ?_
    refine y_k (.bool t23_20 : Value) w_21 rfl rfl rfl (by kernel_rfl) ?_
    refine y_nil ?_
    refine y_then (hK14 _ _ ?_)
    refine y_seq fun K15 hK15 => ?_
    refine y_region ?_
    refine y_call rfl rfl rfl (by kernel_rfl) (h.mono ?_)
    rintro _ w_24 ⟨t27_22, t27_23, rfl, h⟩
    refine ⟨_, rfl, ?_⟩
    refine y_k (.tuple #[.slice t27_22.a t27_22.n t27_22.c, .bool t27_23] : Value) w_24 rfl rfl rfl (by kernel_rfl) ?_
    refine y_k (.slice t27_22.a t27_22.n t27_22.c : Value) w_24 rfl rfl rfl (by kernel_rfl) ?_
    refine y_k (.bool t27_23 : Value) w_24 rfl rfl rfl (by kernel_rfl) ?_
    refine y_k (.slice t27_22.a t27_22.n t27_22.c : Value) w_24 rfl rfl rfl (by kernel_rfl) ?_
    refine y_k (.bool t27_23 : Value) w_24 rfl rfl rfl (by kernel_rfl) ?_
    refine y_nil ?_
    refine y_then (hK15 _ _ ?_)
    refine y_seq fun K16 hK16 => ?_
    have hjK16 : ∀ (f : Fr) (t0_37 : Bool) (w_38 : World), f 0 = (.bool t0_37 : Value) → F38_j1 K t0_37 w_38 → WK K16 56 f w_38 := by
      intro f t0_37 w_38 e0 h
      refine y_atf (upd_id rfl e0) ?_
      clear e0
      unfold F38_j1 at h
      refine hK16 _ _ ?_
      refine y_ret ?_
      repeat (first | refine e_then_r ?_ | refine e_block_r ?_)
      exact (hQ0 _ _ _ (res1 (v := (.bool t0_37 : Value)) rfl rfl rfl) ⟨_, rfl, h⟩).1
    refine y_region ?_
    refine y_k (.slice (some ⟨w_24.heap.size, 0, none⟩) 9 9 : Value) (w_24.alloc (.cells #[.int .u8 49, .int .u8 50, .int .u8 51, .int .u8 52, .int .u8 53, .int .u8 54, .int .u8 55, .int .u8 56, .int .u8 57] 5)) rfl rfl rfl (by kernel_rfl) ?_
    replace h := h _ rfl
    generalize w_24.alloc (.cells #[.int .u8 49, .int .u8 50, .int .u8 51, .int .u8 52, .int .u8 53, .int .u8 54, .int .u8 55, .int .u8 56, .int .u8 57] 5) = w_25 at h ⊢
    obtain ⟨t31_26, w_27, hx17, h⟩ := h
    refine y_v (s := convert 33 33 (.slice (some ⟨w_24.heap.size, 0, none⟩) 9 9 : Value)) rfl rfl rfl (by kernel_rfl) hx17 ?_
    refine y_call rfl rfl rfl (by kernel_rfl) (h.mono ?_)
    rintro _ w_29 ⟨t32_28, rfl, h⟩
    refine ⟨_, rfl, ?_⟩
    refine y_k (.bool ((t32_28 == 3421780262)) : Value) w_29 rfl rfl rfl (by kernel_rfl) ?_
    refine y_k (.bool ((t32_28 == 3421780262)) : Value) w_29 rfl rfl rfl (by kernel_rfl) ?_
    refine y_fork ((t32_28 == 3421780262)) (fun hb18 => ?_) (fun hb18 => ?_)
    · replace h := h.1 (eq_of_beq hb18)
      refine y_frame (upd_id (i := 34) (v := .bool true) rfl (congrArg Value.bool hb18)) ?_
      refine y_gyes rfl rfl rfl ?_
      obtain ⟨t35_30, hx19, h⟩ := h
      refine y_v (s := Instr.sliceAt 50 (.pointer (some (⟨w_12.heap.size, 0, none⟩ : Addr)) : Value) none none none) rfl rfl rfl (by kernel_rfl) (hx19) ?_
      refine y_gyes rfl rfl rfl ?_
      refine y_call rfl rfl rfl (by kernel_rfl) (h.mono ?_)
      rintro _ w_32 ⟨t36_31, rfl, h⟩
      refine ⟨_, rfl, ?_⟩
      refine y_gyes rfl rfl rfl ?_
      refine y_k (.bool ((t36_31.toList == (((ByteArray.mk #[98, 97, 55, 56, 49, 54, 98, 102, 56, 102, 48, 49, 99, 102, 101, 97, 52, 49, 52, 49, 52, 48, 100, 101, 53, 100, 97, 101, 50, 50, 50, 51, 98, 48, 48, 51, 54, 49, 97, 51, 57, 54, 49, 55, 55, 97, 57, 99, 98, 52, 49, 48, 102, 102, 54, 49, 102, 50, 48, 48, 49, 53, 97, 100])).toList))) : Value) w_32 rfl rfl rfl (by kernel_rfl) ?_
      refine y_k (.bool ((t36_31.toList == (((ByteArray.mk #[98, 97, 55, 56, 49, 54, 98, 102, 56, 102, 48, 49, 99, 102, 101, 97, 52, 49, 52, 49, 52, 48, 100, 101, 53, 100, 97, 101, 50, 50, 50, 51, 98, 48, 48, 51, 54, 49, 97, 51, 57, 54, 49, 55, 55, 97, 57, 99, 98, 52, 49, 48, 102, 102, 54, 49, 102, 50, 48, 48, 49, 53, 97, 100])).toList))) : Value) w_32 rfl rfl rfl (by kernel_rfl) ?_
      refine y_k (.bool ((t36_31.toList == (((ByteArray.mk #[98, 97, 55, 56, 49, 54, 98, 102, 56, 102, 48, 49, 99, 102, 101, 97, 52, 49, 52, 49, 52, 48, 100, 101, 53, 100, 97, 101, 50, 50, 50, 51, 98, 48, 48, 51, 54, 49, 97, 51, 57, 54, 49, 55, 55, 97, 57, 99, 98, 52, 49, 48, 102, 102, 54, 49, 102, 50, 48, 48, 49, 53, 97, 100])).toList))) : Value) w_32 rfl rfl rfl (by kernel_rfl) ?_
      refine y_fork ((t36_31.toList == (((ByteArray.mk #[98, 97, 55, 56, 49, 54, 98, 102, 56, 102, 48, 49, 99, 102, 101, 97, 52, 49, 52, 49, 52, 48, 100, 101, 53, 100, 97, 101, 50, 50, 50, 51, 98, 48, 48, 51, 54, 49, 97, 51, 57, 54, 49, 55, 55, 97, 57, 99, 98, 52, 49, 48, 102, 102, 54, 49, 102, 50, 48, 48, 49, 53, 97, 100])).toList))) (fun hb20 => ?_) (fun hb20 => ?_)
      · replace h := h.1 (eq_of_beq hb20)
        refine y_frame (upd_id (i := 39) (v := .bool true) rfl (congrArg Value.bool hb20)) ?_
        refine y_gyes rfl rfl rfl ?_
        obtain ⟨t40_33, hx21, h⟩ := h
        refine y_v (s := Instr.sliceAt 50 (.pointer (some (⟨w_16.heap.size, 0, none⟩ : Addr)) : Value) none none none) rfl rfl rfl (by kernel_rfl) (hx21) ?_
        refine y_gyes rfl rfl rfl ?_
        refine y_call rfl rfl rfl (by kernel_rfl) (h.mono ?_)
        rintro _ w_35 ⟨t41_34, rfl, h⟩
        refine ⟨_, rfl, ?_⟩
        refine y_gyes rfl rfl rfl ?_
        refine y_k (.bool ((t41_34.toList == (((ByteArray.mk #[101, 51, 98, 48, 99, 52, 52, 50, 57, 56, 102, 99, 49, 99, 49, 52, 57, 97, 102, 98, 102, 52, 99, 56, 57, 57, 54, 102, 98, 57, 50, 52, 50, 55, 97, 101, 52, 49, 101, 52, 54, 52, 57, 98, 57, 51, 52, 99, 97, 52, 57, 53, 57, 57, 49, 98, 55, 56, 53, 50, 98, 56, 53, 53])).toList))) : Value) w_35 rfl rfl rfl (by kernel_rfl) ?_
        refine y_k (.bool ((t41_34.toList == (((ByteArray.mk #[101, 51, 98, 48, 99, 52, 52, 50, 57, 56, 102, 99, 49, 99, 49, 52, 57, 97, 102, 98, 102, 52, 99, 56, 57, 57, 54, 102, 98, 57, 50, 52, 50, 55, 97, 101, 52, 49, 101, 52, 54, 52, 57, 98, 57, 51, 52, 99, 97, 52, 57, 53, 57, 57, 49, 98, 55, 56, 53, 50, 98, 56, 53, 53])).toList))) : Value) w_35 rfl rfl rfl (by kernel_rfl) ?_
        refine y_k (.bool ((t41_34.toList == (((ByteArray.mk #[101, 51, 98, 48, 99, 52, 52, 50, 57, 56, 102, 99, 49, 99, 49, 52, 57, 97, 102, 98, 102, 52, 99, 56, 57, 57, 54, 102, 98, 57, 50, 52, 50, 55, 97, 101, 52, 49, 101, 52, 54, 52, 57, 98, 57, 51, 52, 99, 97, 52, 57, 53, 57, 57, 49, 98, 55, 56, 53, 50, 98, 56, 53, 53])).toList))) : Value) w_35 rfl rfl rfl (by kernel_rfl) ?_
        refine y_fork ((t41_34.toList == (((ByteArray.mk #[101, 51, 98, 48, 99, 52, 52, 50, 57, 56, 102, 99, 49, 99, 49, 52, 57, 97, 102, 98, 102, 52, 99, 56, 57, 57, 54, 102, 98, 57, 50, 52, 50, 55, 97, 101, 52, 49, 101, 52, 54, 52, 57, 98, 57, 51, 52, 99, 97, 52, 57, 53, 57, 57, 49, 98, 55, 56, 53, 50, 98, 56, 53, 53])).toList))) (fun hb22 => ?_) (fun hb22 => ?_)
        · replace h := h.1 (eq_of_beq hb22)
          refine y_frame (upd_id (i := 44) (v := .bool true) rfl (congrArg Value.bool hb22)) ?_
          refine y_gyes rfl rfl rfl ?_
          refine y_k (.bool t23_20 : Value) w_35 rfl rfl rfl (by kernel_rfl) ?_
          refine y_k (.bool t23_20 : Value) w_35 rfl rfl rfl (by kernel_rfl) ?_
          refine y_k (.bool t23_20 : Value) w_35 rfl rfl rfl (by kernel_rfl) ?_
          refine y_fork (t23_20) (fun hb23 => ?_) (fun hb23 => ?_)
          · replace h := h.1 (hb23)
            refine y_frame (upd_id (i := 47) (v := .bool true) rfl (congrArg Value.bool hb23)) ?_
            refine y_gyes rfl rfl rfl ?_
            refine y_k (.slice t23_19.a t23_19.n t23_19.c : Value) w_35 rfl rfl rfl (by kernel_rfl) ?_
            refine y_gyes rfl rfl rfl ?_
            obtain ⟨t49_36, hx24, h⟩ := h
            refine y_v (s := convert 33 9 (.slice t23_19.a t23_19.n t23_19.c : Value)) rfl rfl rfl (by kernel_rfl) (hx24) ?_
            refine y_gyes rfl rfl rfl ?_
            refine y_k (.bool ((t49_36.toList == (((ByteArray.mk #[0, 255])).toList))) : Value) w_35 rfl rfl rfl (by kernel_rfl) ?_
            refine y_k (.bool ((t49_36.toList == (((ByteArray.mk #[0, 255])).toList))) : Value) w_35 rfl rfl rfl (by kernel_rfl) ?_
            refine y_k (.bool ((t49_36.toList == (((ByteArray.mk #[0, 255])).toList))) : Value) w_35 rfl rfl rfl (by kernel_rfl) ?_
            refine y_fork ((t49_36.toList == (((ByteArray.mk #[0, 255])).toList))) (fun hb25 => ?_) (fun hb25 => ?_)
            · replace h := h.1 (eq_of_beq hb25)
              refine y_frame (upd_id (i := 52) (v := .bool true) rfl (congrArg Value.bool hb25)) ?_
              refine y_gyes rfl rfl rfl ?_
              refine y_k (.bool t27_23 : Value) w_35 rfl rfl rfl (by kernel_rfl) ?_
              refine y_gyes rfl rfl rfl ?_
              refine y_k (.bool (!(t27_23)) : Value) w_35 rfl rfl rfl (by kernel_rfl) ?_
              refine y_k (.bool (!(t27_23)) : Value) w_35 rfl rfl rfl (by kernel_rfl) ?_
              refine y_k (.bool (!(t27_23)) : Value) w_35 rfl rfl rfl (by kernel_rfl) ?_
              refine y_nil ?_
              exact y_then (hjK16 _ (!(t27_23)) w_35 rfl h)
            · replace h := h.2 (beq_eq_false_iff_ne.mp hb25)
              refine y_frame (upd_id (i := 52) (v := .bool false) rfl (congrArg Value.bool hb25)) ?_
              refine y_gno rfl rfl rfl rfl ?_
              refine y_gno rfl rfl rfl rfl ?_
              refine y_k (.bool false : Value) w_35 rfl rfl rfl (by kernel_rfl) ?_
              refine y_k (.bool false : Value) w_35 rfl rfl rfl (by kernel_rfl) ?_
              refine y_nil ?_
              exact y_then (hjK16 _ false w_35 rfl h)
          · replace h := h.2 (hb23)
            refine y_frame (upd_id (i := 47) (v := .bool false) rfl (congrArg Value.bool hb23)) ?_
            refine y_gno rfl rfl rfl rfl ?_
            refine y_gno rfl rfl rfl rfl ?_
            refine y_gno rfl rfl rfl rfl ?_
            refine y_k (.bool false : Value) w_35 rfl rfl rfl (by kernel_rfl) ?_
            refine y_k (.bool false : Value) w_35 rfl rfl rfl (by kernel_rfl) ?_
            refine y_gno rfl rfl rfl rfl ?_
            refine y_gno rfl rfl rfl rfl ?_
            refine y_k (.bool false : Value) w_35 rfl rfl rfl (by kernel_rfl) ?_
            refine y_k (.bool false : Value) w_35 rfl rfl rfl (by kernel_rfl) ?_
            refine y_nil ?_
            exact y_then (hjK16 _ false w_35 rfl h)
        · replace h := h.2 (beq_eq_false_iff_ne.mp hb22)
          refine y_frame (upd_id (i := 44) (v := .bool false) rfl (congrArg Value.bool hb22)) ?_
          refine y_gno rfl rfl rfl rfl ?_
          refine y_k (.bool false : Value) w_35 rfl rfl rfl (by kernel_rfl) ?_
          refine y_k (.bool false : Value) w_35 rfl rfl rfl (by kernel_rfl) ?_
          refine y_gno rfl rfl rfl rfl ?_
          refine y_gno rfl rfl rfl rfl ?_
          refine y_gno rfl rfl rfl rfl ?_
          refine y_k (.bool false : Value) w_35 rfl rfl rfl (by kernel_rfl) ?_
          refine y_k (.bool false : Value) w_35 rfl rfl rfl (by kernel_rfl) ?_
          refine y_gno rfl rfl rfl rfl ?_
          refine y_gno rfl rfl rfl rfl ?_
          refine y_k (.bool false : Value) w_35 rfl rfl rfl (by kernel_rfl) ?_
          refine y_k (.bool false : Value) w_35 rfl rfl rfl (by kernel_rfl) ?_
          refine y_nil ?_
          exact y_then (hjK16 _ false w_35 rfl h)
      · replace h := h.2 (beq_eq_false_iff_ne.mp hb20)
        refine y_frame (upd_id (i := 39) (v := .bool false) rfl (congrArg Value.bool hb20)) ?_
        refine y_gno rfl rfl rfl rfl ?_
        refine y_gno rfl rfl rfl rfl ?_
        refine y_gno rfl rfl rfl rfl ?_
        refine y_k (.bool false : Value) w_32 rfl rfl rfl (by kernel_rfl) ?_
        refine y_k (.bool false : Value) w_32 rfl rfl rfl (by kernel_rfl) ?_
        refine y_gno rfl rfl rfl rfl ?_
        refine y_k (.bool false : Value) w_32 rfl rfl rfl (by kernel_rfl) ?_
        refine y_k (.bool false : Value) w_32 rfl rfl rfl (by kernel_rfl) ?_
        refine y_gno rfl rfl rfl rfl ?_
        refine y_gno rfl rfl rfl rfl ?_
        refine y_gno rfl rfl rfl rfl ?_
        refine y_k (.bool false : Value) w_32 rfl rfl rfl (by kernel_rfl) ?_
        refine y_k (.bool false : Value) w_32 rfl rfl rfl (by kernel_rfl) ?_
        refine y_gno rfl rfl rfl rfl ?_
        refine y_gno rfl rfl rfl rfl ?_
        refine y_k (.bool false : Value) w_32 rfl rfl rfl (by kernel_rfl) ?_
        refine y_k (.bool false : Value) w_32 rfl rfl rfl (by kernel_rfl) ?_
        refine y_nil ?_
        exact y_then (hjK16 _ false w_32 rfl h)
    · replace h := h.2 (beq_eq_false_iff_ne.mp hb18)
      refine y_frame (upd_id (i := 34) (v := .bool false) rfl (congrArg Value.bool hb18)) ?_
      refine y_gno rfl rfl rfl rfl ?_
      refine y_gno rfl rfl rfl rfl ?_
      refine y_gno rfl rfl rfl rfl ?_
      refine y_k (.bool false : Value) w_29 rfl rfl rfl (by kernel_rfl) ?_
      refine y_k (.bool false : Value) w_29 rfl rfl rfl (by kernel_rfl) ?_
      refine y_gno rfl rfl rfl rfl ?_
      refine y_gno rfl rfl rfl rfl ?_
      refine y_gno rfl rfl rfl rfl ?_
      refine y_k (.bool false : Value) w_29 rfl rfl rfl (by kernel_rfl) ?_
      refine y_k (.bool false : Value) w_29 rfl rfl rfl (by kernel_rfl) ?_
      refine y_gno rfl rfl rfl rfl ?_
      refine y_k (.bool false : Value) w_29 rfl rfl rfl (by kernel_rfl) ?_
      refine y_k (.bool false : Value) w_29 rfl rfl rfl (by kernel_rfl) ?_
      refine y_gno rfl rfl rfl rfl ?_
      refine y_gno rfl rfl rfl rfl ?_
      refine y_gno rfl rfl rfl rfl ?_
      refine y_k (.bool false : Value) w_29 rfl rfl rfl (by kernel_rfl) ?_
      refine y_k (.bool false : Value) w_29 rfl rfl rfl (by kernel_rfl) ?_
      refine y_gno rfl rfl rfl rfl ?_
      refine y_gno rfl rfl rfl rfl ?_
      refine y_k (.bool false : Value) w_29 rfl rfl rfl (by kernel_rfl) ?_
      refine y_k (.bool false : Value) w_29 rfl rfl rfl (by kernel_rfl) ?_
      refine y_nil ?_
      exact y_then (hjK16 _ false w_29 rfl h)

end Go.Proofs.Ytjgijifankaglaa
