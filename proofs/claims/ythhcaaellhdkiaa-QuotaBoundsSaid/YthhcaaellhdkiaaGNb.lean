/- Printed by gen.py (own program, wip/): for each Go function a predicate transformer and its soundness. -/
import Derived.Test.YthhcaaellhdkiaaProg
import Derived.Test.YthhcaaellhdkiaaST
namespace Go.Proofs.Ythhcaaellhdkiaa
open Go Go.RowKit Go.Proofs.Ythhcaaellhdkiaa.SX
set_option linter.unusedVariables false

def F12_j1 (K : Bool → World → Prop) (t0_33 : Bool) (w_34 : World) : Prop :=
  K t0_33 w_34
/-- turnkey/turnkeylaw01.shown -/
def F12  (K : Bool → World → Prop) (w : World) : Prop :=
  ∀ (w_1 : World), w_1 = w.alloc (.cells #[.int .u8 1, .int .u8 2] 5) →
  Calls Try.prog 17 #[.slice (some ⟨w.heap.size, 0, none⟩) 2 2, .int .u64 300] w_1 fun e w_3 => ∃ (t15_2 : Sl), e = .returned (.slice t15_2.a t15_2.n t15_2.c : Value) ∧
  ∀ (w_4 : World), w_4 = w_3.alloc (.cells #[.int .u8 128, .int .u8 1, .int .u8 7] 5) →
  Calls Try.prog 24 #[.slice (some ⟨w_3.heap.size, 0, none⟩) 3 3] w_4 fun e w_7 => ∃ (t18_5 : Int), ∃ (t18_6 : Int), e = .returned (.tuple #[.int .u64 t18_5, .int .i64 t18_6] : Value) ∧
  ∀ (w_8 : World), w_8 = w_7.alloc (.cells #[.int .u8 128, .int .u8 0] 5) →
  Calls Try.prog 24 #[.slice (some ⟨w_7.heap.size, 0, none⟩) 2 2] w_8 fun e w_11 => ∃ (t23_9 : Int), ∃ (t23_10 : Int), e = .returned (.tuple #[.int .u64 t23_9, .int .i64 t23_10] : Value) ∧
  Calls Try.prog 18 #[.slice none 0 0, .int .i64 ((-64))] w_11 fun e w_13 => ∃ (t26_12 : Sl), e = .returned (.slice t26_12.a t26_12.n t26_12.c : Value) ∧
  ∀ (w_14 : World), w_14 = w_13.alloc (.cells #[.int .u8 128, .int .u8 1] 5) →
  Calls Try.prog 25 #[.slice (some ⟨w_13.heap.size, 0, none⟩) 2 2] w_14 fun e w_17 => ∃ (t29_15 : Int), ∃ (t29_16 : Int), e = .returned (.tuple #[.int .i64 t29_15, .int .i64 t29_16] : Value) ∧
  ∀ (w_18 : World), w_18 = w_17.alloc (.cells #[.int .u8 97, .int .u8 98] 5) →
  ∃ (t33_19 : Sl), ∃ (w_20 : World), (convert 22 22 (.slice (some ⟨w_17.heap.size, 0, none⟩) 2 2 : Value)).run Try.prog w_18 = .ok (.slice t33_19.a t33_19.n t33_19.c : Value) w_20 ∧
  Calls Try.prog 19 #[.slice none 0 0, .slice t33_19.a t33_19.n t33_19.c] w_20 fun e w_22 => ∃ (t34_21 : Sl), e = .returned (.slice t34_21.a t34_21.n t34_21.c : Value) ∧
  Calls Try.prog 26 #[.slice t34_21.a t34_21.n t34_21.c, .int .i64 2] w_22 fun e w_25 => ∃ (t37_23 : Sl), ∃ (t37_24 : Int), e = .returned (.tuple #[.slice t37_23.a t37_23.n t37_23.c, .int .i64 t37_24] : Value) ∧
  Calls Try.prog 26 #[.slice t34_21.a t34_21.n t34_21.c, .int .i64 1] w_25 fun e w_28 => ∃ (t42_26 : Sl), ∃ (t42_27 : Int), e = .returned (.tuple #[.slice t42_26.a t42_26.n t42_26.c, .int .i64 t42_27] : Value) ∧
  ∃ (t46_29 : ByteArray), (convert 22 9 (.slice t15_2.a t15_2.n t15_2.c : Value)).run Try.prog w_28 = .ok (.string t46_29 : Value) w_28 ∧
  ((t46_29.toList = (((ByteArray.mk #[1, 2, 172, 2])).toList) →
  ((t18_5 = 128 →
  ((t18_6 = 2 →
  ((t23_10 = 0 →
  ∃ (t62_30 : ByteArray), (convert 22 9 (.slice t26_12.a t26_12.n t26_12.c : Value)).run Try.prog w_28 = .ok (.string t62_30 : Value) w_28 ∧
  ((t62_30.toList = (((ByteArray.mk #[127])).toList) →
  ((t29_15 = 64 →
  ((t29_16 = 2 →
  ∃ (t75_31 : ByteArray), (convert 22 9 (.slice t34_21.a t34_21.n t34_21.c : Value)).run Try.prog w_28 = .ok (.string t75_31 : Value) w_28 ∧
  ((t75_31.toList = (((ByteArray.mk #[2, 97, 98])).toList) →
  ∃ (t80_32 : ByteArray), (convert 22 9 (.slice t37_23.a t37_23.n t37_23.c : Value)).run Try.prog w_28 = .ok (.string t80_32 : Value) w_28 ∧
  ((t80_32.toList = (((ByteArray.mk #[97, 98])).toList) →
  ((t37_24 = 3 →
  F12_j1 K ((t42_27 == 0)) w_28) ∧
  (¬ t37_24 = 3 →
  F12_j1 K false w_28))) ∧
  (¬ t80_32.toList = (((ByteArray.mk #[97, 98])).toList) →
  F12_j1 K false w_28))) ∧
  (¬ t75_31.toList = (((ByteArray.mk #[2, 97, 98])).toList) →
  F12_j1 K false w_28))) ∧
  (¬ t29_16 = 2 →
  F12_j1 K false w_28))) ∧
  (¬ t29_15 = 64 →
  F12_j1 K false w_28))) ∧
  (¬ t62_30.toList = (((ByteArray.mk #[127])).toList) →
  F12_j1 K false w_28))) ∧
  (¬ t23_10 = 0 →
  F12_j1 K false w_28))) ∧
  (¬ t18_6 = 2 →
  F12_j1 K false w_28))) ∧
  (¬ t18_5 = 128 →
  F12_j1 K false w_28))) ∧
  (¬ t46_29.toList = (((ByteArray.mk #[1, 2, 172, 2])).toList) →
  F12_j1 K false w_28))
set_option maxHeartbeats 4000000 in
set_option maxRecDepth 20000 in
theorem F12_sound  (K : Bool → World → Prop) (w : World) (h : F12  K w) :
    Calls Try.prog 12 #[] w (fun e w1 => ∃ (r0 : Bool), e = .returned (.bool r0 : Value) ∧ K r0 w1) := by
  unfold F12 at h
  refine y_enter (n := 91) (args := []) Try.func12 rfl rfl rfl fun Q0 hQ0 => ?_
  refine y_seq fun K1 hK1 => ?_
  refine y_region ?_
  refine y_k (.bool false : Value) w rfl rfl rfl (by kernel_rfl) ?_
  refine y_nil ?_
  refine y_then (hK1 _ _ ?_)
  refine y_seq fun K2 hK2 => ?_
  refine y_region ?_
  refine y_k (.slice (some ⟨w.heap.size, 0, none⟩) 2 2 : Value) (w.alloc (.cells #[.int .u8 1, .int .u8 2] 5)) rfl rfl rfl (by kernel_rfl) ?_
  replace h := h _ rfl
  generalize w.alloc (.cells #[.int .u8 1, .int .u8 2] 5) = w_1 at h ⊢
  refine y_call rfl rfl rfl (by kernel_rfl) (h.mono ?_)
  rintro _ w_3 ⟨t15_2, rfl, h⟩
  refine ⟨_, rfl, ?_⟩
  refine y_k (.slice t15_2.a t15_2.n t15_2.c : Value) w_3 rfl rfl rfl (by kernel_rfl) ?_
  refine y_nil ?_
  refine y_then (hK2 _ _ ?_)
  refine y_seq fun K3 hK3 => ?_
  refine y_region ?_
  refine y_k (.slice (some ⟨w_3.heap.size, 0, none⟩) 3 3 : Value) (w_3.alloc (.cells #[.int .u8 128, .int .u8 1, .int .u8 7] 5)) rfl rfl rfl (by kernel_rfl) ?_
  replace h := h _ rfl
  generalize w_3.alloc (.cells #[.int .u8 128, .int .u8 1, .int .u8 7] 5) = w_4 at h ⊢
  refine y_call rfl rfl rfl (by kernel_rfl) (h.mono ?_)
  rintro _ w_7 ⟨t18_5, t18_6, rfl, h⟩
  refine ⟨_, rfl, ?_⟩
  refine y_k (.tuple #[.int .u64 t18_5, .int .i64 t18_6] : Value) w_7 rfl rfl rfl (by kernel_rfl) ?_
  refine y_k (.int .u64 t18_5 : Value) w_7 rfl rfl rfl (by kernel_rfl) ?_
  refine y_k (.int .i64 t18_6 : Value) w_7 rfl rfl rfl (by kernel_rfl) ?_
  refine y_k (.int .u64 t18_5 : Value) w_7 rfl rfl rfl (by kernel_rfl) ?_
  refine y_k (.int .i64 t18_6 : Value) w_7 rfl rfl rfl (by kernel_rfl) ?_
  refine y_nil ?_
  refine y_then (hK3 _ _ ?_)
  refine y_seq fun K4 hK4 => ?_
  refine y_region ?_
  refine y_k (.slice (some ⟨w_7.heap.size, 0, none⟩) 2 2 : Value) (w_7.alloc (.cells #[.int .u8 128, .int .u8 0] 5)) rfl rfl rfl (by kernel_rfl) ?_
  replace h := h _ rfl
  generalize w_7.alloc (.cells #[.int .u8 128, .int .u8 0] 5) = w_8 at h ⊢
  refine y_call rfl rfl rfl (by kernel_rfl) (h.mono ?_)
  rintro _ w_11 ⟨t23_9, t23_10, rfl, h⟩
  refine ⟨_, rfl, ?_⟩
  refine y_k (.tuple #[.int .u64 t23_9, .int .i64 t23_10] : Value) w_11 rfl rfl rfl (by kernel_rfl) ?_
  refine y_k (.int .u64 t23_9 : Value) w_11 rfl rfl rfl (by kernel_rfl) ?_
  refine y_k (.int .i64 t23_10 : Value) w_11 rfl rfl rfl (by kernel_rfl) ?_
  refine y_k (.int .u64 t23_9 : Value) w_11 rfl rfl rfl (by kernel_rfl) ?_
  refine y_k (.int .i64 t23_10 : Value) w_11 rfl rfl rfl (by kernel_rfl) ?_
  refine y_nil ?_
  refine y_then (hK4 _ _ ?_)
  refine y_seq fun K5 hK5 => ?_
  refine y_region ?_
  refine y_call rfl rfl rfl (by kernel_rfl) (h.mono ?_)
  rintro _ w_13 ⟨t26_12, rfl, h⟩
  refine ⟨_, rfl, ?_⟩
  refine y_k (.slice t26_12.a t26_12.n t26_12.c : Value) w_13 rfl rfl rfl (by kernel_rfl) ?_
  refine y_nil ?_
  refine y_then (hK5 _ _ ?_)
  refine y_seq fun K6 hK6 => ?_
  refine y_region ?_
  refine y_k (.slice (some ⟨w_13.heap.size, 0, none⟩) 2 2 : Value) (w_13.alloc (.cells #[.int .u8 128, .int .u8 1] 5)) rfl rfl rfl (by kernel_rfl) ?_
  replace h := h _ rfl
  generalize w_13.alloc (.cells #[.int .u8 128, .int .u8 1] 5) = w_14 at h ⊢
  refine y_call rfl rfl rfl (by kernel_rfl) (h.mono ?_)
  rintro _ w_17 ⟨t29_15, t29_16, rfl, h⟩
  refine ⟨_, rfl, ?_⟩
  refine y_k (.tuple #[.int .i64 t29_15, .int .i64 t29_16] : Value) w_17 rfl rfl rfl (by kernel_rfl) ?_
  refine y_k (.int .i64 t29_15 : Value) w_17 rfl rfl rfl (by kernel_rfl) ?_
  refine y_k (.int .i64 t29_16 : Value) w_17 rfl rfl rfl (by kernel_rfl) ?_
  refine y_k (.int .i64 t29_15 : Value) w_17 rfl rfl rfl (by kernel_rfl) ?_
  refine y_k (.int .i64 t29_16 : Value) w_17 rfl rfl rfl (by kernel_rfl) ?_
  refine y_nil ?_
  refine y_then (hK6 _ _ ?_)
  refine y_seq fun K7 hK7 => ?_
  refine y_region ?_
  refine y_k (.slice (some ⟨w_17.heap.size, 0, none⟩) 2 2 : Value) (w_17.alloc (.cells #[.int .u8 97, .int .u8 98] 5)) rfl rfl rfl (by kernel_rfl) ?_
  replace h := h _ rfl
  generalize w_17.alloc (.cells #[.int .u8 97, .int .u8 98] 5) = w_18 at h ⊢
  obtain ⟨t33_19, w_20, hx8, h⟩ := h
  refine y_v (s := convert 22 22 (.slice (some ⟨w_17.heap.size, 0, none⟩) 2 2 : Value)) rfl rfl rfl (by kernel_rfl) hx8 ?_
  refine y_call rfl rfl rfl (by kernel_rfl) (h.mono ?_)
  rintro _ w_22 ⟨t34_21, rfl, h⟩
  refine ⟨_, rfl, ?_⟩
  refine y_k (.slice t34_21.a t34_21.n t34_21.c : Value) w_22 rfl rfl rfl (by kernel_rfl) ?_
  refine y_nil ?_
  refine y_then (hK7 _ _ ?_)
  refine y_seq fun K9 hK9 => ?_
  refine y_region ?_
  refine y_k (.slice t34_21.a t34_21.n t34_21.c : Value) w_22 rfl rfl rfl (by kernel_rfl) ?_
  refine y_call rfl rfl rfl (by kernel_rfl) (h.mono ?_)
  rintro _ w_25 ⟨t37_23, t37_24, rfl, h⟩
  refine ⟨_, rfl, ?_⟩
  refine y_k (.tuple #[.slice t37_23.a t37_23.n t37_23.c, .int .i64 t37_24] : Value) w_25 rfl rfl rfl (by kernel_rfl) ?_
  refine y_k (.slice t37_23.a t37_23.n t37_23.c : Value) w_25 rfl rfl rfl (by kernel_rfl) ?_
  refine y_k (.int .i64 t37_24 : Value) w_25 rfl rfl rfl (by kernel_rfl) ?_
  refine y_k (.slice t37_23.a t37_23.n t37_23.c : Value) w_25 rfl rfl rfl (by kernel_rfl) ?_
  refine y_k (.int .i64 t37_24 : Value) w_25 rfl rfl rfl (by kernel_rfl) ?_
  refine y_nil ?_
  refine y_then (hK9 _ _ ?_)
  refine y_seq fun K10 hK10 => ?_
  refine y_region ?_
  refine y_k (.slice t34_21.a t34_21.n t34_21.c : Value) w_25 rfl rfl rfl (by kernel_rfl) ?_
  refine y_call rfl rfl rfl (by kernel_rfl) (h.mono ?_)
  rintro _ w_28 ⟨t42_26, t42_27, rfl, h⟩
  refine ⟨_, rfl, ?_⟩
  refine y_k (.tuple #[.slice t42_26.a t42_26.n t42_26.c, .int .i64 t42_27] : Value) w_28 rfl rfl rfl (by kernel_rfl) ?_
  refine y_k (.slice t42_26.a t42_26.n t42_26.c : Value) w_28 rfl rfl rfl (by kernel_rfl) ?_
  refine y_k (.int .i64 t42_27 : Value) w_28 rfl rfl rfl (by kernel_rfl) ?_
  refine y_k (.slice t42_26.a t42_26.n t42_26.c : Value) w_28 rfl rfl rfl (by kernel_rfl) ?_
  refine y_k (.int .i64 t42_27 : Value) w_28 rfl rfl rfl (by kernel_rfl) ?_
  refine y_nil ?_
  refine y_then (hK10 _ _ ?_)
  refine y_seq fun K11 hK11 => ?_
  have hjK11 : ∀ (f : Fr) (t0_33 : Bool) (w_34 : World), f 0 = (.bool t0_33 : Value) → F12_j1 K t0_33 w_34 → WK K11 91 f w_34 := by
    intro f t0_33 w_34 e0 h
    refine y_atf (upd_id rfl e0) ?_
    clear e0
    unfold F12_j1 at h
    refine hK11 _ _ ?_
    refine y_ret ?_
    repeat (first | refine e_then_r ?_ | refine e_block_r ?_)
    exact (hQ0 _ _ _ (res1 (v := (.bool t0_33 : Value)) rfl rfl rfl) ⟨_, rfl, h⟩).1
  refine y_region ?_
  refine y_k (.slice t15_2.a t15_2.n t15_2.c : Value) w_28 rfl rfl rfl (by kernel_rfl) ?_
  obtain ⟨t46_29, hx12, h⟩ := h
  refine y_v (s := convert 22 9 (.slice t15_2.a t15_2.n t15_2.c : Value)) rfl rfl rfl (by kernel_rfl) (hx12) ?_
  refine y_k (.bool ((t46_29.toList == (((ByteArray.mk #[1, 2, 172, 2])).toList))) : Value) w_28 rfl rfl rfl (by kernel_rfl) ?_
  refine y_k (.bool ((t46_29.toList == (((ByteArray.mk #[1, 2, 172, 2])).toList))) : Value) w_28 rfl rfl rfl (by kernel_rfl) ?_
  refine y_fork ((t46_29.toList == (((ByteArray.mk #[1, 2, 172, 2])).toList))) (fun hb13 => ?_) (fun hb13 => ?_)
  · replace h := h.1 (eq_of_beq hb13)
    refine y_frame (upd_id (i := 48) (v := .bool true) rfl (congrArg Value.bool hb13)) ?_
    refine y_gyes rfl rfl rfl ?_
    refine y_k (.int .u64 t18_5 : Value) w_28 rfl rfl rfl (by kernel_rfl) ?_
    refine y_gyes rfl rfl rfl ?_
    refine y_k (.bool ((t18_5 == 128)) : Value) w_28 rfl rfl rfl (by kernel_rfl) ?_
    refine y_k (.bool ((t18_5 == 128)) : Value) w_28 rfl rfl rfl (by kernel_rfl) ?_
    refine y_k (.bool ((t18_5 == 128)) : Value) w_28 rfl rfl rfl (by kernel_rfl) ?_
    refine y_fork ((t18_5 == 128)) (fun hb14 => ?_) (fun hb14 => ?_)
    · replace h := h.1 (eq_of_beq hb14)
      refine y_frame (upd_id (i := 52) (v := .bool true) rfl (congrArg Value.bool hb14)) ?_
      refine y_gyes rfl rfl rfl ?_
      refine y_k (.int .i64 t18_6 : Value) w_28 rfl rfl rfl (by kernel_rfl) ?_
      refine y_gyes rfl rfl rfl ?_
      refine y_k (.bool ((t18_6 == 2)) : Value) w_28 rfl rfl rfl (by kernel_rfl) ?_
      refine y_k (.bool ((t18_6 == 2)) : Value) w_28 rfl rfl rfl (by kernel_rfl) ?_
      refine y_k (.bool ((t18_6 == 2)) : Value) w_28 rfl rfl rfl (by kernel_rfl) ?_
      refine y_fork ((t18_6 == 2)) (fun hb15 => ?_) (fun hb15 => ?_)
      · replace h := h.1 (eq_of_beq hb15)
        refine y_frame (upd_id (i := 56) (v := .bool true) rfl (congrArg Value.bool hb15)) ?_
        refine y_gyes rfl rfl rfl ?_
        refine y_k (.int .i64 t23_10 : Value) w_28 rfl rfl rfl (by kernel_rfl) ?_
        refine y_gyes rfl rfl rfl ?_
        refine y_k (.bool ((t23_10 == 0)) : Value) w_28 rfl rfl rfl (by kernel_rfl) ?_
        refine y_k (.bool ((t23_10 == 0)) : Value) w_28 rfl rfl rfl (by kernel_rfl) ?_
        refine y_k (.bool ((t23_10 == 0)) : Value) w_28 rfl rfl rfl (by kernel_rfl) ?_
        refine y_fork ((t23_10 == 0)) (fun hb16 => ?_) (fun hb16 => ?_)
        · replace h := h.1 (eq_of_beq hb16)
          refine y_frame (upd_id (i := 60) (v := .bool true) rfl (congrArg Value.bool hb16)) ?_
          refine y_gyes rfl rfl rfl ?_
          refine y_k (.slice t26_12.a t26_12.n t26_12.c : Value) w_28 rfl rfl rfl (by kernel_rfl) ?_
          refine y_gyes rfl rfl rfl ?_
          obtain ⟨t62_30, hx17, h⟩ := h
          refine y_v (s := convert 22 9 (.slice t26_12.a t26_12.n t26_12.c : Value)) rfl rfl rfl (by kernel_rfl) (hx17) ?_
          refine y_gyes rfl rfl rfl ?_
          refine y_k (.bool ((t62_30.toList == (((ByteArray.mk #[127])).toList))) : Value) w_28 rfl rfl rfl (by kernel_rfl) ?_
          refine y_k (.bool ((t62_30.toList == (((ByteArray.mk #[127])).toList))) : Value) w_28 rfl rfl rfl (by kernel_rfl) ?_
          refine y_k (.bool ((t62_30.toList == (((ByteArray.mk #[127])).toList))) : Value) w_28 rfl rfl rfl (by kernel_rfl) ?_
          refine y_fork ((t62_30.toList == (((ByteArray.mk #[127])).toList))) (fun hb18 => ?_) (fun hb18 => ?_)
          · replace h := h.1 (eq_of_beq hb18)
            refine y_frame (upd_id (i := 65) (v := .bool true) rfl (congrArg Value.bool hb18)) ?_
            refine y_gyes rfl rfl rfl ?_
            refine y_k (.int .i64 t29_15 : Value) w_28 rfl rfl rfl (by kernel_rfl) ?_
            refine y_gyes rfl rfl rfl ?_
            refine y_k (.bool ((t29_15 == 64)) : Value) w_28 rfl rfl rfl (by kernel_rfl) ?_
            refine y_k (.bool ((t29_15 == 64)) : Value) w_28 rfl rfl rfl (by kernel_rfl) ?_
            refine y_k (.bool ((t29_15 == 64)) : Value) w_28 rfl rfl rfl (by kernel_rfl) ?_
            refine y_fork ((t29_15 == 64)) (fun hb19 => ?_) (fun hb19 => ?_)
            · replace h := h.1 (eq_of_beq hb19)
              refine y_frame (upd_id (i := 69) (v := .bool true) rfl (congrArg Value.bool hb19)) ?_
              refine y_gyes rfl rfl rfl ?_
              refine y_k (.int .i64 t29_16 : Value) w_28 rfl rfl rfl (by kernel_rfl) ?_
              refine y_gyes rfl rfl rfl ?_
              refine y_k (.bool ((t29_16 == 2)) : Value) w_28 rfl rfl rfl (by kernel_rfl) ?_
              refine y_k (.bool ((t29_16 == 2)) : Value) w_28 rfl rfl rfl (by kernel_rfl) ?_
              refine y_k (.bool ((t29_16 == 2)) : Value) w_28 rfl rfl rfl (by kernel_rfl) ?_
              refine y_fork ((t29_16 == 2)) (fun hb20 => ?_) (fun hb20 => ?_)
              · replace h := h.1 (eq_of_beq hb20)
                refine y_frame (upd_id (i := 73) (v := .bool true) rfl (congrArg Value.bool hb20)) ?_
                refine y_gyes rfl rfl rfl ?_
                refine y_k (.slice t34_21.a t34_21.n t34_21.c : Value) w_28 rfl rfl rfl (by kernel_rfl) ?_
                refine y_gyes rfl rfl rfl ?_
                obtain ⟨t75_31, hx21, h⟩ := h
                refine y_v (s := convert 22 9 (.slice t34_21.a t34_21.n t34_21.c : Value)) rfl rfl rfl (by kernel_rfl) (hx21) ?_
                refine y_gyes rfl rfl rfl ?_
                refine y_k (.bool ((t75_31.toList == (((ByteArray.mk #[2, 97, 98])).toList))) : Value) w_28 rfl rfl rfl (by kernel_rfl) ?_
                refine y_k (.bool ((t75_31.toList == (((ByteArray.mk #[2, 97, 98])).toList))) : Value) w_28 rfl rfl rfl (by kernel_rfl) ?_
                refine y_k (.bool ((t75_31.toList == (((ByteArray.mk #[2, 97, 98])).toList))) : Value) w_28 rfl rfl rfl (by kernel_rfl) ?_
                refine y_fork ((t75_31.toList == (((ByteArray.mk #[2, 97, 98])).toList))) (fun hb22 => ?_) (fun hb22 => ?_)
                · replace h := h.1 (eq_of_beq hb22)
                  refine y_frame (upd_id (i := 78) (v := .bool true) rfl (congrArg Value.bool hb22)) ?_
                  refine y_gyes rfl rfl rfl ?_
                  refine y_k (.slice t37_23.a t37_23.n t37_23.c : Value) w_28 rfl rfl rfl (by kernel_rfl) ?_
                  refine y_gyes rfl rfl rfl ?_
                  obtain ⟨t80_32, hx23, h⟩ := h
                  refine y_v (s := convert 22 9 (.slice t37_23.a t37_23.n t37_23.c : Value)) rfl rfl rfl (by kernel_rfl) (hx23) ?_
                  refine y_gyes rfl rfl rfl ?_
                  refine y_k (.bool ((t80_32.toList == (((ByteArray.mk #[97, 98])).toList))) : Value) w_28 rfl rfl rfl (by kernel_rfl) ?_
                  refine y_k (.bool ((t80_32.toList == (((ByteArray.mk #[97, 98])).toList))) : Value) w_28 rfl rfl rfl (by kernel_rfl) ?_
                  refine y_k (.bool ((t80_32.toList == (((ByteArray.mk #[97, 98])).toList))) : Value) w_28 rfl rfl rfl (by kernel_rfl) ?_
                  refine y_fork ((t80_32.toList == (((ByteArray.mk #[97, 98])).toList))) (fun hb24 => ?_) (fun hb24 => ?_)
                  · replace h := h.1 (eq_of_beq hb24)
                    refine y_frame (upd_id (i := 83) (v := .bool true) rfl (congrArg Value.bool hb24)) ?_
                    refine y_gyes rfl rfl rfl ?_
                    refine y_k (.int .i64 t37_24 : Value) w_28 rfl rfl rfl (by kernel_rfl) ?_
                    refine y_gyes rfl rfl rfl ?_
                    refine y_k (.bool ((t37_24 == 3)) : Value) w_28 rfl rfl rfl (by kernel_rfl) ?_
                    refine y_k (.bool ((t37_24 == 3)) : Value) w_28 rfl rfl rfl (by kernel_rfl) ?_
                    refine y_k (.bool ((t37_24 == 3)) : Value) w_28 rfl rfl rfl (by kernel_rfl) ?_
                    refine y_fork ((t37_24 == 3)) (fun hb25 => ?_) (fun hb25 => ?_)
                    · replace h := h.1 (eq_of_beq hb25)
                      refine y_frame (upd_id (i := 87) (v := .bool true) rfl (congrArg Value.bool hb25)) ?_
                      refine y_gyes rfl rfl rfl ?_
                      refine y_k (.int .i64 t42_27 : Value) w_28 rfl rfl rfl (by kernel_rfl) ?_
                      refine y_gyes rfl rfl rfl ?_
                      refine y_k (.bool ((t42_27 == 0)) : Value) w_28 rfl rfl rfl (by kernel_rfl) ?_
                      refine y_k (.bool ((t42_27 == 0)) : Value) w_28 rfl rfl rfl (by kernel_rfl) ?_
                      refine y_k (.bool ((t42_27 == 0)) : Value) w_28 rfl rfl rfl (by kernel_rfl) ?_
                      refine y_nil ?_
                      exact y_then (hjK11 _ ((t42_27 == 0)) w_28 rfl h)
                    · replace h := h.2 (beq_eq_false_iff_ne.mp hb25)
                      refine y_frame (upd_id (i := 87) (v := .bool false) rfl (congrArg Value.bool hb25)) ?_
                      refine y_gno rfl rfl rfl rfl ?_
                      refine y_gno rfl rfl rfl rfl ?_
                      refine y_k (.bool false : Value) w_28 rfl rfl rfl (by kernel_rfl) ?_
                      refine y_k (.bool false : Value) w_28 rfl rfl rfl (by kernel_rfl) ?_
                      refine y_nil ?_
                      exact y_then (hjK11 _ false w_28 rfl h)
                  · replace h := h.2 (beq_eq_false_iff_ne.mp hb24)
                    refine y_frame (upd_id (i := 83) (v := .bool false) rfl (congrArg Value.bool hb24)) ?_
                    refine y_gno rfl rfl rfl rfl ?_
                    refine y_gno rfl rfl rfl rfl ?_
                    refine y_k (.bool false : Value) w_28 rfl rfl rfl (by kernel_rfl) ?_
                    refine y_k (.bool false : Value) w_28 rfl rfl rfl (by kernel_rfl) ?_
                    refine y_gno rfl rfl rfl rfl ?_
                    refine y_gno rfl rfl rfl rfl ?_
                    refine y_k (.bool false : Value) w_28 rfl rfl rfl (by kernel_rfl) ?_
                    refine y_k (.bool false : Value) w_28 rfl rfl rfl (by kernel_rfl) ?_
                    refine y_nil ?_
                    exact y_then (hjK11 _ false w_28 rfl h)
                · replace h := h.2 (beq_eq_false_iff_ne.mp hb22)
                  refine y_frame (upd_id (i := 78) (v := .bool false) rfl (congrArg Value.bool hb22)) ?_
                  refine y_gno rfl rfl rfl rfl ?_
                  refine y_gno rfl rfl rfl rfl ?_
                  refine y_gno rfl rfl rfl rfl ?_
                  refine y_k (.bool false : Value) w_28 rfl rfl rfl (by kernel_rfl) ?_
                  refine y_k (.bool false : Value) w_28 rfl rfl rfl (by kernel_rfl) ?_
                  refine y_gno rfl rfl rfl rfl ?_
                  refine y_gno rfl rfl rfl rfl ?_
                  refine y_k (.bool false : Value) w_28 rfl rfl rfl (by kernel_rfl) ?_
                  refine y_k (.bool false : Value) w_28 rfl rfl rfl (by kernel_rfl) ?_
                  refine y_gno rfl rfl rfl rfl ?_
                  refine y_gno rfl rfl rfl rfl ?_
                  refine y_k (.bool false : Value) w_28 rfl rfl rfl (by kernel_rfl) ?_
                  refine y_k (.bool false : Value) w_28 rfl rfl rfl (by kernel_rfl) ?_
                  refine y_nil ?_
                  exact y_then (hjK11 _ false w_28 rfl h)
              · replace h := h.2 (beq_eq_false_iff_ne.mp hb20)
                refine y_frame (upd_id (i := 73) (v := .bool false) rfl (congrArg Value.bool hb20)) ?_
                refine y_gno rfl rfl rfl rfl ?_
                refine y_gno rfl rfl rfl rfl ?_
                refine y_gno rfl rfl rfl rfl ?_
                refine y_k (.bool false : Value) w_28 rfl rfl rfl (by kernel_rfl) ?_
                refine y_k (.bool false : Value) w_28 rfl rfl rfl (by kernel_rfl) ?_
                refine y_gno rfl rfl rfl rfl ?_
                refine y_gno rfl rfl rfl rfl ?_
                refine y_gno rfl rfl rfl rfl ?_
                refine y_k (.bool false : Value) w_28 rfl rfl rfl (by kernel_rfl) ?_
                refine y_k (.bool false : Value) w_28 rfl rfl rfl (by kernel_rfl) ?_
                refine y_gno rfl rfl rfl rfl ?_
                refine y_gno rfl rfl rfl rfl ?_
                refine y_k (.bool false : Value) w_28 rfl rfl rfl (by kernel_rfl) ?_
                refine y_k (.bool false : Value) w_28 rfl rfl rfl (by kernel_rfl) ?_
                refine y_gno rfl rfl rfl rfl ?_
                refine y_gno rfl rfl rfl rfl ?_
                refine y_k (.bool false : Value) w_28 rfl rfl rfl (by kernel_rfl) ?_
                refine y_k (.bool false : Value) w_28 rfl rfl rfl (by kernel_rfl) ?_
                refine y_nil ?_
                exact y_then (hjK11 _ false w_28 rfl h)
            · replace h := h.2 (beq_eq_false_iff_ne.mp hb19)
              refine y_frame (upd_id (i := 69) (v := .bool false) rfl (congrArg Value.bool hb19)) ?_
              refine y_gno rfl rfl rfl rfl ?_
              refine y_gno rfl rfl rfl rfl ?_
              refine y_k (.bool false : Value) w_28 rfl rfl rfl (by kernel_rfl) ?_
              refine y_k (.bool false : Value) w_28 rfl rfl rfl (by kernel_rfl) ?_
              refine y_gno rfl rfl rfl rfl ?_
              refine y_gno rfl rfl rfl rfl ?_
              refine y_gno rfl rfl rfl rfl ?_
              refine y_k (.bool false : Value) w_28 rfl rfl rfl (by kernel_rfl) ?_
              refine y_k (.bool false : Value) w_28 rfl rfl rfl (by kernel_rfl) ?_
              refine y_gno rfl rfl rfl rfl ?_
              refine y_gno rfl rfl rfl rfl ?_
              refine y_gno rfl rfl rfl rfl ?_
              refine y_k (.bool false : Value) w_28 rfl rfl rfl (by kernel_rfl) ?_
              refine y_k (.bool false : Value) w_28 rfl rfl rfl (by kernel_rfl) ?_
              refine y_gno rfl rfl rfl rfl ?_
              refine y_gno rfl rfl rfl rfl ?_
              refine y_k (.bool false : Value) w_28 rfl rfl rfl (by kernel_rfl) ?_
              refine y_k (.bool false : Value) w_28 rfl rfl rfl (by kernel_rfl) ?_
              refine y_gno rfl rfl rfl rfl ?_
              refine y_gno rfl rfl rfl rfl ?_
              refine y_k (.bool false : Value) w_28 rfl rfl rfl (by kernel_rfl) ?_
              refine y_k (.bool false : Value) w_28 rfl rfl rfl (by kernel_rfl) ?_
              refine y_nil ?_
              exact y_then (hjK11 _ false w_28 rfl h)
          · replace h := h.2 (beq_eq_false_iff_ne.mp hb18)
            refine y_frame (upd_id (i := 65) (v := .bool false) rfl (congrArg Value.bool hb18)) ?_
            refine y_gno rfl rfl rfl rfl ?_
            refine y_gno rfl rfl rfl rfl ?_
            refine y_k (.bool false : Value) w_28 rfl rfl rfl (by kernel_rfl) ?_
            refine y_k (.bool false : Value) w_28 rfl rfl rfl (by kernel_rfl) ?_
            refine y_gno rfl rfl rfl rfl ?_
            refine y_gno rfl rfl rfl rfl ?_
            refine y_k (.bool false : Value) w_28 rfl rfl rfl (by kernel_rfl) ?_
            refine y_k (.bool false : Value) w_28 rfl rfl rfl (by kernel_rfl) ?_
            refine y_gno rfl rfl rfl rfl ?_
            refine y_gno rfl rfl rfl rfl ?_
            refine y_gno rfl rfl rfl rfl ?_
            refine y_k (.bool false : Value) w_28 rfl rfl rfl (by kernel_rfl) ?_
            refine y_k (.bool false : Value) w_28 rfl rfl rfl (by kernel_rfl) ?_
            refine y_gno rfl rfl rfl rfl ?_
            refine y_gno rfl rfl rfl rfl ?_
            refine y_gno rfl rfl rfl rfl ?_
            refine y_k (.bool false : Value) w_28 rfl rfl rfl (by kernel_rfl) ?_
            refine y_k (.bool false : Value) w_28 rfl rfl rfl (by kernel_rfl) ?_
            refine y_gno rfl rfl rfl rfl ?_
            refine y_gno rfl rfl rfl rfl ?_
            refine y_k (.bool false : Value) w_28 rfl rfl rfl (by kernel_rfl) ?_
            refine y_k (.bool false : Value) w_28 rfl rfl rfl (by kernel_rfl) ?_
            refine y_gno rfl rfl rfl rfl ?_
            refine y_gno rfl rfl rfl rfl ?_
            refine y_k (.bool false : Value) w_28 rfl rfl rfl (by kernel_rfl) ?_
            refine y_k (.bool false : Value) w_28 rfl rfl rfl (by kernel_rfl) ?_
            refine y_nil ?_
            exact y_then (hjK11 _ false w_28 rfl h)
        · replace h := h.2 (beq_eq_false_iff_ne.mp hb16)
          refine y_frame (upd_id (i := 60) (v := .bool false) rfl (congrArg Value.bool hb16)) ?_
          refine y_gno rfl rfl rfl rfl ?_
          refine y_gno rfl rfl rfl rfl ?_
          refine y_gno rfl rfl rfl rfl ?_
          refine y_k (.bool false : Value) w_28 rfl rfl rfl (by kernel_rfl) ?_
          refine y_k (.bool false : Value) w_28 rfl rfl rfl (by kernel_rfl) ?_
          refine y_gno rfl rfl rfl rfl ?_
          refine y_gno rfl rfl rfl rfl ?_
          refine y_k (.bool false : Value) w_28 rfl rfl rfl (by kernel_rfl) ?_
          refine y_k (.bool false : Value) w_28 rfl rfl rfl (by kernel_rfl) ?_
          refine y_gno rfl rfl rfl rfl ?_
          refine y_gno rfl rfl rfl rfl ?_
          refine y_k (.bool false : Value) w_28 rfl rfl rfl (by kernel_rfl) ?_
          refine y_k (.bool false : Value) w_28 rfl rfl rfl (by kernel_rfl) ?_
          refine y_gno rfl rfl rfl rfl ?_
          refine y_gno rfl rfl rfl rfl ?_
          refine y_gno rfl rfl rfl rfl ?_
          refine y_k (.bool false : Value) w_28 rfl rfl rfl (by kernel_rfl) ?_
          refine y_k (.bool false : Value) w_28 rfl rfl rfl (by kernel_rfl) ?_
          refine y_gno rfl rfl rfl rfl ?_
          refine y_gno rfl rfl rfl rfl ?_
          refine y_gno rfl rfl rfl rfl ?_
          refine y_k (.bool false : Value) w_28 rfl rfl rfl (by kernel_rfl) ?_
          refine y_k (.bool false : Value) w_28 rfl rfl rfl (by kernel_rfl) ?_
          refine y_gno rfl rfl rfl rfl ?_
          refine y_gno rfl rfl rfl rfl ?_
          refine y_k (.bool false : Value) w_28 rfl rfl rfl (by kernel_rfl) ?_
          refine y_k (.bool false : Value) w_28 rfl rfl rfl (by kernel_rfl) ?_
          refine y_gno rfl rfl rfl rfl ?_
          refine y_gno rfl rfl rfl rfl ?_
          refine y_k (.bool false : Value) w_28 rfl rfl rfl (by kernel_rfl) ?_
          refine y_k (.bool false : Value) w_28 rfl rfl rfl (by kernel_rfl) ?_
          refine y_nil ?_
          exact y_then (hjK11 _ false w_28 rfl h)
      · replace h := h.2 (beq_eq_false_iff_ne.mp hb15)
        refine y_frame (upd_id (i := 56) (v := .bool false) rfl (congrArg Value.bool hb15)) ?_
        refine y_gno rfl rfl rfl rfl ?_
        refine y_gno rfl rfl rfl rfl ?_
        refine y_k (.bool false : Value) w_28 rfl rfl rfl (by kernel_rfl) ?_
        refine y_k (.bool false : Value) w_28 rfl rfl rfl (by kernel_rfl) ?_
        refine y_gno rfl rfl rfl rfl ?_
        refine y_gno rfl rfl rfl rfl ?_
        refine y_gno rfl rfl rfl rfl ?_
        refine y_k (.bool false : Value) w_28 rfl rfl rfl (by kernel_rfl) ?_
        refine y_k (.bool false : Value) w_28 rfl rfl rfl (by kernel_rfl) ?_
        refine y_gno rfl rfl rfl rfl ?_
        refine y_gno rfl rfl rfl rfl ?_
        refine y_k (.bool false : Value) w_28 rfl rfl rfl (by kernel_rfl) ?_
        refine y_k (.bool false : Value) w_28 rfl rfl rfl (by kernel_rfl) ?_
        refine y_gno rfl rfl rfl rfl ?_
        refine y_gno rfl rfl rfl rfl ?_
        refine y_k (.bool false : Value) w_28 rfl rfl rfl (by kernel_rfl) ?_
        refine y_k (.bool false : Value) w_28 rfl rfl rfl (by kernel_rfl) ?_
        refine y_gno rfl rfl rfl rfl ?_
        refine y_gno rfl rfl rfl rfl ?_
        refine y_gno rfl rfl rfl rfl ?_
        refine y_k (.bool false : Value) w_28 rfl rfl rfl (by kernel_rfl) ?_
        refine y_k (.bool false : Value) w_28 rfl rfl rfl (by kernel_rfl) ?_
        refine y_gno rfl rfl rfl rfl ?_
        refine y_gno rfl rfl rfl rfl ?_
        refine y_gno rfl rfl rfl rfl ?_
        refine y_k (.bool false : Value) w_28 rfl rfl rfl (by kernel_rfl) ?_
        refine y_k (.bool false : Value) w_28 rfl rfl rfl (by kernel_rfl) ?_
        refine y_gno rfl rfl rfl rfl ?_
        refine y_gno rfl rfl rfl rfl ?_
        refine y_k (.bool false : Value) w_28 rfl rfl rfl (by kernel_rfl) ?_
        refine y_k (.bool false : Value) w_28 rfl rfl rfl (by kernel_rfl) ?_
        refine y_gno rfl rfl rfl rfl ?_
        refine y_gno rfl rfl rfl rfl ?_
        refine y_k (.bool false : Value) w_28 rfl rfl rfl (by kernel_rfl) ?_
        refine y_k (.bool false : Value) w_28 rfl rfl rfl (by kernel_rfl) ?_
        refine y_nil ?_
        exact y_then (hjK11 _ false w_28 rfl h)
    · replace h := h.2 (beq_eq_false_iff_ne.mp hb14)
      refine y_frame (upd_id (i := 52) (v := .bool false) rfl (congrArg Value.bool hb14)) ?_
      refine y_gno rfl rfl rfl rfl ?_
      refine y_gno rfl rfl rfl rfl ?_
      refine y_k (.bool false : Value) w_28 rfl rfl rfl (by kernel_rfl) ?_
      refine y_k (.bool false : Value) w_28 rfl rfl rfl (by kernel_rfl) ?_
      refine y_gno rfl rfl rfl rfl ?_
      refine y_gno rfl rfl rfl rfl ?_
      refine y_k (.bool false : Value) w_28 rfl rfl rfl (by kernel_rfl) ?_
      refine y_k (.bool false : Value) w_28 rfl rfl rfl (by kernel_rfl) ?_
      refine y_gno rfl rfl rfl rfl ?_
      refine y_gno rfl rfl rfl rfl ?_
      refine y_gno rfl rfl rfl rfl ?_
      refine y_k (.bool false : Value) w_28 rfl rfl rfl (by kernel_rfl) ?_
      refine y_k (.bool false : Value) w_28 rfl rfl rfl (by kernel_rfl) ?_
      refine y_gno rfl rfl rfl rfl ?_
      refine y_gno rfl rfl rfl rfl ?_
      refine y_k (.bool false : Value) w_28 rfl rfl rfl (by kernel_rfl) ?_
      refine y_k (.bool false : Value) w_28 rfl rfl rfl (by kernel_rfl) ?_
      refine y_gno rfl rfl rfl rfl ?_
      refine y_gno rfl rfl rfl rfl ?_
      refine y_k (.bool false : Value) w_28 rfl rfl rfl (by kernel_rfl) ?_
      refine y_k (.bool false : Value) w_28 rfl rfl rfl (by kernel_rfl) ?_
      refine y_gno rfl rfl rfl rfl ?_
      refine y_gno rfl rfl rfl rfl ?_
      refine y_gno rfl rfl rfl rfl ?_
      refine y_k (.bool false : Value) w_28 rfl rfl rfl (by kernel_rfl) ?_
      refine y_k (.bool false : Value) w_28 rfl rfl rfl (by kernel_rfl) ?_
      refine y_gno rfl rfl rfl rfl ?_
      refine y_gno rfl rfl rfl rfl ?_
      refine y_gno rfl rfl rfl rfl ?_
      refine y_k (.bool false : Value) w_28 rfl rfl rfl (by kernel_rfl) ?_
      refine y_k (.bool false : Value) w_28 rfl rfl rfl (by kernel_rfl) ?_
      refine y_gno rfl rfl rfl rfl ?_
      refine y_gno rfl rfl rfl rfl ?_
      refine y_k (.bool false : Value) w_28 rfl rfl rfl (by kernel_rfl) ?_
      refine y_k (.bool false : Value) w_28 rfl rfl rfl (by kernel_rfl) ?_
      refine y_gno rfl rfl rfl rfl ?_
      refine y_gno rfl rfl rfl rfl ?_
      refine y_k (.bool false : Value) w_28 rfl rfl rfl (by kernel_rfl) ?_
      refine y_k (.bool false : Value) w_28 rfl rfl rfl (by kernel_rfl) ?_
      refine y_nil ?_
      exact y_then (hjK11 _ false w_28 rfl h)
  · replace h := h.2 (beq_eq_false_iff_ne.mp hb13)
    refine y_frame (upd_id (i := 48) (v := .bool false) rfl (congrArg Value.bool hb13)) ?_
    refine y_gno rfl rfl rfl rfl ?_
    refine y_gno rfl rfl rfl rfl ?_
    refine y_k (.bool false : Value) w_28 rfl rfl rfl (by kernel_rfl) ?_
    refine y_k (.bool false : Value) w_28 rfl rfl rfl (by kernel_rfl) ?_
    refine y_gno rfl rfl rfl rfl ?_
    refine y_gno rfl rfl rfl rfl ?_
    refine y_k (.bool false : Value) w_28 rfl rfl rfl (by kernel_rfl) ?_
    refine y_k (.bool false : Value) w_28 rfl rfl rfl (by kernel_rfl) ?_
    refine y_gno rfl rfl rfl rfl ?_
    refine y_gno rfl rfl rfl rfl ?_
    refine y_k (.bool false : Value) w_28 rfl rfl rfl (by kernel_rfl) ?_
    refine y_k (.bool false : Value) w_28 rfl rfl rfl (by kernel_rfl) ?_
    refine y_gno rfl rfl rfl rfl ?_
    refine y_gno rfl rfl rfl rfl ?_
    refine y_gno rfl rfl rfl rfl ?_
    refine y_k (.bool false : Value) w_28 rfl rfl rfl (by kernel_rfl) ?_
    refine y_k (.bool false : Value) w_28 rfl rfl rfl (by kernel_rfl) ?_
    refine y_gno rfl rfl rfl rfl ?_
    refine y_gno rfl rfl rfl rfl ?_
    refine y_k (.bool false : Value) w_28 rfl rfl rfl (by kernel_rfl) ?_
    refine y_k (.bool false : Value) w_28 rfl rfl rfl (by kernel_rfl) ?_
    refine y_gno rfl rfl rfl rfl ?_
    refine y_gno rfl rfl rfl rfl ?_
    refine y_k (.bool false : Value) w_28 rfl rfl rfl (by kernel_rfl) ?_
    refine y_k (.bool false : Value) w_28 rfl rfl rfl (by kernel_rfl) ?_
    refine y_gno rfl rfl rfl rfl ?_
    refine y_gno rfl rfl rfl rfl ?_
    refine y_gno rfl rfl rfl rfl ?_
    refine y_k (.bool false : Value) w_28 rfl rfl rfl (by kernel_rfl) ?_
    refine y_k (.bool false : Value) w_28 rfl rfl rfl (by kernel_rfl) ?_
    refine y_gno rfl rfl rfl rfl ?_
    refine y_gno rfl rfl rfl rfl ?_
    refine y_gno rfl rfl rfl rfl ?_
    refine y_k (.bool false : Value) w_28 rfl rfl rfl (by kernel_rfl) ?_
    refine y_k (.bool false : Value) w_28 rfl rfl rfl (by kernel_rfl) ?_
    refine y_gno rfl rfl rfl rfl ?_
    refine y_gno rfl rfl rfl rfl ?_
    refine y_k (.bool false : Value) w_28 rfl rfl rfl (by kernel_rfl) ?_
    refine y_k (.bool false : Value) w_28 rfl rfl rfl (by kernel_rfl) ?_
    refine y_gno rfl rfl rfl rfl ?_
    refine y_gno rfl rfl rfl rfl ?_
    refine y_k (.bool false : Value) w_28 rfl rfl rfl (by kernel_rfl) ?_
    refine y_k (.bool false : Value) w_28 rfl rfl rfl (by kernel_rfl) ?_
    refine y_nil ?_
    exact y_then (hjK11 _ false w_28 rfl h)

def F13_l1 (K : Sl → World → Prop) (t8_2 : Sl) (next9 : (Int) → World → Prop) : (Int) → World → Prop := fun (i4_6) w_7 =>
  ((i4_6 < ((t8_2.n : Int)) →
  (0 : Int) ≤ i4_6 ∧ i4_6 < (t8_2.n : Int) ∧ ∃ (a_8 : Addr), t8_2.a = some a_8 ∧
  HasCell w_7 (a_8.add (Int.toNat i4_6)) ∧ ∀ (w_9 : World), w_9 = w_7.setCell (a_8.add (Int.toNat i4_6)) (.int .u8 201 : Value) →
  next9 (IntKind.i64.wrap (i4_6 + 1)) w_9) ∧
  (¬ (i4_6 < ((t8_2.n : Int))) →
  K t8_2 w_7))
/-- turnkey/turnkeylaw01.lent -/
def F13 (s0_1 : Sl) (K : Sl → World → Prop) (w : World) : Prop :=
  ∃ (t8_2 : Sl), ∃ (w_3 : World), (Instr.makeSlice 22 (.int .i64 (IntKind.i64.wrap (((s0_1.n : Int)) + 8)) : Value) (.int .i64 (IntKind.i64.wrap (((s0_1.n : Int)) + 8)) : Value)).run Try.prog w = .ok (.slice t8_2.a t8_2.n t8_2.c : Value) w_3 ∧
  ∃ (t11_4 : Int), ∃ (w_5 : World), (Builtin.copy_ #[22, 22] 3 #[.slice t8_2.a t8_2.n t8_2.c, .slice s0_1.a s0_1.n s0_1.c]).run Try.prog w_3 = .ok (.int .i64 t11_4 : Value) w_5 ∧
  kLoop (F13_l1 K t8_2) ((s0_1.n : Int)) w_5
set_option maxHeartbeats 4000000 in
set_option maxRecDepth 20000 in
theorem F13_sound (s0_1 : Sl) (K : Sl → World → Prop) (w : World) (h : F13 s0_1 K w) :
    Calls Try.prog 13 #[.slice s0_1.a s0_1.n s0_1.c] w (fun e w1 => ∃ (r0 : Sl), e = .returned (.slice r0.a r0.n r0.c : Value) ∧ K r0 w1) := by
  unfold F13 at h
  refine y_enter (n := 24) (args := [.slice s0_1.a s0_1.n s0_1.c]) Try.func13 rfl rfl rfl fun Q0 hQ0 => ?_
  refine y_seq fun K1 hK1 => ?_
  refine y_region ?_
  refine y_k (.slice none 0 0 : Value) w rfl rfl rfl (by kernel_rfl) ?_
  refine y_nil ?_
  refine y_then (hK1 _ _ ?_)
  refine y_seq fun K2 hK2 => ?_
  refine y_region ?_
  refine y_k (.slice s0_1.a s0_1.n s0_1.c : Value) w rfl rfl rfl (by kernel_rfl) ?_
  refine y_k (.int .i64 ((s0_1.n : Int)) : Value) w rfl rfl rfl (by kernel_rfl) ?_
  refine y_k (.int .i64 (IntKind.i64.wrap (((s0_1.n : Int)) + 8)) : Value) w rfl rfl rfl (by kernel_rfl) ?_
  obtain ⟨t8_2, w_3, hx3, h⟩ := h
  refine y_v (s := Instr.makeSlice 22 (.int .i64 (IntKind.i64.wrap (((s0_1.n : Int)) + 8)) : Value) (.int .i64 (IntKind.i64.wrap (((s0_1.n : Int)) + 8)) : Value)) rfl rfl rfl (by kernel_rfl) hx3 ?_
  refine y_k (.slice t8_2.a t8_2.n t8_2.c : Value) w_3 rfl rfl rfl (by kernel_rfl) ?_
  refine y_nil ?_
  refine y_then (hK2 _ _ ?_)
  refine y_seq fun K4 hK4 => ?_
  refine y_region ?_
  refine y_k (.slice t8_2.a t8_2.n t8_2.c : Value) w_3 rfl rfl rfl (by kernel_rfl) ?_
  refine y_k (.slice s0_1.a s0_1.n s0_1.c : Value) w_3 rfl rfl rfl (by kernel_rfl) ?_
  obtain ⟨t11_4, w_5, hx5, h⟩ := h
  refine y_v (s := Builtin.copy_ #[22, 22] 3 #[.slice t8_2.a t8_2.n t8_2.c, .slice s0_1.a s0_1.n s0_1.c]) rfl rfl rfl (by kernel_rfl) hx5 ?_
  refine y_nil ?_
  refine y_then (hK4 _ _ ?_)
  refine y_seq fun K6 hK6 => ?_
  refine y_seq fun K7 hK7 => ?_
  refine y_region ?_
  refine y_k (.slice s0_1.a s0_1.n s0_1.c : Value) w_5 rfl rfl rfl (by kernel_rfl) ?_
  refine y_k (.int .i64 ((s0_1.n : Int)) : Value) w_5 rfl rfl rfl (by kernel_rfl) ?_
  refine y_k (.int .i64 ((s0_1.n : Int)) : Value) w_5 rfl rfl rfl (by kernel_rfl) ?_
  refine y_nil ?_
  refine y_then (hK7 _ _ ?_)
  refine y_block ?_
  refine y_loop (S := Int) (fun s j => match s with | (i4_6) => upd (upd (j) 3 (.slice t8_2.a t8_2.n t8_2.c : Value)) 4 (.int .i64 i4_6 : Value)) ((s0_1.n : Int)) ?_ h ?_
  · dsimp only
    refine upd_id ?_ rfl
    refine upd_id ?_ rfl
    rfl
  rintro KN10 next9 hN10 i4_6 j w_7 h
  unfold F13_l1 at h
  refine y_seq fun K11 hK11 => ?_
  refine y_seq fun K12 hK12 => ?_
  refine y_region ?_
  refine y_k (.int .i64 i4_6 : Value) w_7 rfl rfl rfl (by kernel_rfl) ?_
  refine y_k (.slice t8_2.a t8_2.n t8_2.c : Value) w_7 rfl rfl rfl (by kernel_rfl) ?_
  refine y_k (.int .i64 ((t8_2.n : Int)) : Value) w_7 rfl rfl rfl (by kernel_rfl) ?_
  refine y_k (.bool (decide (i4_6 < ((t8_2.n : Int)))) : Value) w_7 rfl rfl rfl (by kernel_rfl) ?_
  refine y_nil ?_
  refine y_then (hK12 _ _ ?_)
  refine y_cond (decide (i4_6 < ((t8_2.n : Int)))) rfl rfl (fun hb18 => ?_) (fun hb18 => ?_)
  · replace h := h.1 (of_decide_eq_true hb18)
    refine y_skip ?_
    refine y_then (hK11 _ _ ?_)
    refine y_seq fun K13 hK13 => ?_
    refine y_block ?_
    refine y_region ?_
    refine y_k (.slice t8_2.a t8_2.n t8_2.c : Value) w_7 rfl rfl rfl (by kernel_rfl) ?_
    refine y_k (.int .i64 i4_6 : Value) w_7 rfl rfl rfl (by kernel_rfl) ?_
    obtain ⟨hx15a, hx15b, a_8, hx15, h⟩ := h
    refine y_v (v := (.pointer (some (a_8.add (Int.toNat i4_6))) : Value)) (s := Instr.indexAt 22 (.slice t8_2.a t8_2.n t8_2.c : Value) (.int .i64 i4_6 : Value)) rfl rfl rfl (by kernel_rfl) (run_ixs1 (el := 5) (by kernel_rfl) (by kernel_rfl) hx15 hx15a hx15b) ?_
    obtain ⟨hx16, h⟩ := h
    replace h := h _ rfl
    refine y_u (s := Instr.storeAt 5 (.pointer (some (a_8.add (Int.toNat i4_6)))) (.int .u8 201 : Value)) rfl rfl (by kernel_rfl) (rn_store1 (by kernel_rfl) rfl hx16) ?_
    generalize w_7.setCell (a_8.add (Int.toNat i4_6)) (.int .u8 201 : Value) = w_9 at h ⊢
    refine y_nil ?_
    refine e_block_n ?_
    refine y_then (hK13 _ _ ?_)
    refine y_region ?_
    refine y_k (.int .i64 i4_6 : Value) w_9 rfl rfl rfl (by kernel_rfl) ?_
    refine y_k (.int .i64 (IntKind.i64.wrap (i4_6 + 1)) : Value) w_9 rfl rfl rfl (by kernel_rfl) ?_
    refine y_k (.int .i64 (IntKind.i64.wrap (i4_6 + 1)) : Value) w_9 rfl rfl rfl (by kernel_rfl) ?_
    refine y_nil ?_
    refine y_then (hN10 (IntKind.i64.wrap (i4_6 + 1)) _ _ h ?_)
    dsimp only
    refine upd_id ?_ rfl
    refine upd_id ?_ rfl
    rfl
  · replace h := h.2 (of_decide_eq_false hb18)
    refine y_exit ?_
    repeat (first | refine e_then_x ?_ | refine e_block_y rfl ?_)
    refine e_block_x ?_
    refine y_then (hK6 _ _ ?_)
    refine y_seq fun K17 hK17 => ?_
    refine y_region ?_
    refine y_k (.slice t8_2.a t8_2.n t8_2.c : Value) w_7 rfl rfl rfl (by kernel_rfl) ?_
    refine y_k (.slice t8_2.a t8_2.n t8_2.c : Value) w_7 rfl rfl rfl (by kernel_rfl) ?_
    refine y_nil ?_
    refine y_then (hK17 _ _ ?_)
    refine y_ret ?_
    repeat (first | refine e_then_r ?_ | refine e_block_r ?_)
    exact (hQ0 _ _ _ (res1 (v := (.slice t8_2.a t8_2.n t8_2.c : Value)) rfl rfl rfl) ⟨_, rfl, h⟩).1

def F20_l1 (b0_1 : Sl) (s1_2 : Sl) (K : Bool → World → Prop) (next5 : (Int) → World → Prop) : (Int) → World → Prop := fun (i5_3) w_4 =>
  ((i5_3 < ((b0_1.n : Int)) →
  ((i5_3 < ((s1_2.n : Int)) →
  (0 : Int) ≤ i5_3 ∧ i5_3 < (b0_1.n : Int) ∧ ∃ (a_5 : Addr), b0_1.a = some a_5 ∧
  ∃ (t20_6 : Int), w_4.cell? (a_5.add (Int.toNat i5_3)) = some (.int .u8 t20_6) ∧
  (0 : Int) ≤ i5_3 ∧ i5_3 < (s1_2.n : Int) ∧ ∃ (a_7 : Addr), s1_2.a = some a_7 ∧
  ∃ (t24_8 : Int), w_4.cell? (a_7.add (Int.toNat i5_3)) = some (.int .u8 t24_8) ∧
  ((¬ t20_6 = t24_8 →
  ∀ (w_9 : World), (∃ m, w_9 = w_4.drewN m) →
  K false w_9) ∧
  (t20_6 = t24_8 →
  ((i5_3 ≥ ((s1_2.n : Int)) →
  (0 : Int) ≤ i5_3 ∧ i5_3 < (b0_1.n : Int) ∧ ∃ (a_10 : Addr), b0_1.a = some a_10 ∧
  ∃ (t36_11 : Int), w_4.cell? (a_10.add (Int.toNat i5_3)) = some (.int .u8 t36_11) ∧
  ∀ (w_12 : World), (∃ m, w_12 = w_4.drewN m) →
  ((¬ t36_11 = 201 →
  K false w_12) ∧
  (t36_11 = 201 →
  next5 (IntKind.i64.wrap (i5_3 + 1)) w_12))) ∧
  (¬ (i5_3 ≥ ((s1_2.n : Int))) →
  ∀ (w_13 : World), (∃ m, w_13 = w_4.drewN m) →
  next5 (IntKind.i64.wrap (i5_3 + 1)) w_13))))) ∧
  (¬ (i5_3 < ((s1_2.n : Int))) →
  ((i5_3 ≥ ((s1_2.n : Int)) →
  (0 : Int) ≤ i5_3 ∧ i5_3 < (b0_1.n : Int) ∧ ∃ (a_14 : Addr), b0_1.a = some a_14 ∧
  ∃ (t36_15 : Int), w_4.cell? (a_14.add (Int.toNat i5_3)) = some (.int .u8 t36_15) ∧
  ∀ (w_16 : World), (∃ m, w_16 = w_4.drewN m) →
  ((¬ t36_15 = 201 →
  K false w_16) ∧
  (t36_15 = 201 →
  next5 (IntKind.i64.wrap (i5_3 + 1)) w_16))) ∧
  (¬ (i5_3 ≥ ((s1_2.n : Int))) →
  ∀ (w_17 : World), (∃ m, w_17 = w_4.drewN m) →
  next5 (IntKind.i64.wrap (i5_3 + 1)) w_17))))) ∧
  (¬ (i5_3 < ((b0_1.n : Int))) →
  K true w_4))
/-- turnkey/turnkeylaw01.still -/
def F20 (b0_1 : Sl) (s1_2 : Sl) (K : Bool → World → Prop) (w : World) : Prop :=
  kLoop (F20_l1 b0_1 s1_2 K) (0) w
set_option maxHeartbeats 4000000 in
set_option maxRecDepth 20000 in
theorem F20_sound (b0_1 : Sl) (s1_2 : Sl) (K : Bool → World → Prop) (w : World) (h : F20 b0_1 s1_2 K w) :
    Calls Try.prog 20 #[.slice b0_1.a b0_1.n b0_1.c, .slice s1_2.a s1_2.n s1_2.c] w (fun e w1 => ∃ (r0 : Bool), e = .returned (.bool r0 : Value) ∧ K r0 w1) := by
  unfold F20 at h
  refine y_enter (n := 40) (args := [.slice b0_1.a b0_1.n b0_1.c, .slice s1_2.a s1_2.n s1_2.c]) Try.func20 rfl rfl rfl fun Q0 hQ0 => ?_
  refine y_seq fun K1 hK1 => ?_
  refine y_region ?_
  refine y_k (.bool false : Value) w rfl rfl rfl (by kernel_rfl) ?_
  refine y_nil ?_
  refine y_then (hK1 _ _ ?_)
  refine y_seq fun K2 hK2 => ?_
  refine y_seq fun K3 hK3 => ?_
  refine y_region ?_
  refine y_k (.int .i64 0 : Value) w rfl rfl rfl (by kernel_rfl) ?_
  refine y_nil ?_
  refine y_then (hK3 _ _ ?_)
  refine y_block ?_
  refine y_loop (S := Int) (fun s j => match s with | (i5_3) => upd (upd (upd (j) 0 (.slice b0_1.a b0_1.n b0_1.c : Value)) 1 (.slice s1_2.a s1_2.n s1_2.c : Value)) 5 (.int .i64 i5_3 : Value)) (0) ?_ h ?_
  · dsimp only
    refine upd_id ?_ rfl
    refine upd_id ?_ rfl
    refine upd_id ?_ rfl
    rfl
  rintro KN6 next5 hN6 i5_3 j w_4 h
  unfold F20_l1 at h
  refine y_seq fun K7 hK7 => ?_
  refine y_seq fun K8 hK8 => ?_
  refine y_region ?_
  refine y_k (.int .i64 i5_3 : Value) w_4 rfl rfl rfl (by kernel_rfl) ?_
  refine y_k (.slice b0_1.a b0_1.n b0_1.c : Value) w_4 rfl rfl rfl (by kernel_rfl) ?_
  refine y_k (.int .i64 ((b0_1.n : Int)) : Value) w_4 rfl rfl rfl (by kernel_rfl) ?_
  refine y_k (.bool (decide (i5_3 < ((b0_1.n : Int)))) : Value) w_4 rfl rfl rfl (by kernel_rfl) ?_
  refine y_nil ?_
  refine y_then (hK8 _ _ ?_)
  refine y_cond (decide (i5_3 < ((b0_1.n : Int)))) rfl rfl (fun hb36 => ?_) (fun hb36 => ?_)
  · replace h := h.1 (of_decide_eq_true hb36)
    refine y_skip ?_
    refine y_then (hK7 _ _ ?_)
    refine y_seq fun K9 hK9 => ?_
    refine y_block ?_
    refine y_seq fun K11 hK11 => ?_
    refine q_region (by kernel_rfl) (by kernel_rfl) fun Qq12 hQq12 => ?_
    refine q_k (.int .i64 i5_3 : Value) rfl rfl rfl (fun _ => by kernel_rfl) ?_
    refine q_k (.slice s1_2.a s1_2.n s1_2.c : Value) rfl rfl rfl (fun _ => by kernel_rfl) ?_
    refine q_k (.int .i64 ((s1_2.n : Int)) : Value) rfl rfl rfl (fun _ => by kernel_rfl) ?_
    refine q_k (.bool (decide (i5_3 < ((s1_2.n : Int)))) : Value) rfl rfl rfl (fun _ => by kernel_rfl) ?_
    refine q_k (.bool (decide (i5_3 < ((s1_2.n : Int)))) : Value) rfl rfl rfl (fun _ => by kernel_rfl) ?_
    refine q_fork (decide (i5_3 < ((s1_2.n : Int)))) (fun hb13 => ?_) (fun hb13 => ?_)
    · replace h := h.1 (of_decide_eq_true hb13)
      refine q_frame (upd_id (i := 16) (v := .bool true) rfl (congrArg Value.bool hb13)) ?_
      refine q_gyes rfl rfl rfl ?_
      refine q_k (.slice b0_1.a b0_1.n b0_1.c : Value) rfl rfl rfl (fun _ => by kernel_rfl) ?_
      refine q_gyes rfl rfl rfl ?_
      refine q_k (.int .i64 i5_3 : Value) rfl rfl rfl (fun _ => by kernel_rfl) ?_
      refine q_gyes rfl rfl rfl ?_
      obtain ⟨hx14a, hx14b, a_5, hx14, h⟩ := h
      refine q_v (v := (.pointer (some (a_5.add (Int.toNat i5_3))) : Value)) (s := Instr.indexAt 22 (.slice b0_1.a b0_1.n b0_1.c : Value) (.int .i64 i5_3 : Value)) rfl rfl rfl (by kernel_rfl) (fun _ => run_ixs1 (el := 5) (by kernel_rfl) (by kernel_rfl) hx14 hx14a hx14b) ?_
      refine q_gyes rfl rfl rfl ?_
      obtain ⟨t20_6, hx15, h⟩ := h
      refine q_v (v := (.int .u8 t20_6 : Value)) (s := Instr.loadAt 5 (.pointer (some (a_5.add (Int.toNat i5_3))))) rfl rfl rfl (by kernel_rfl) (fun _ => rn_load (by kernel_rfl) hx15) ?_
      refine q_gyes rfl rfl rfl ?_
      refine q_k (.slice s1_2.a s1_2.n s1_2.c : Value) rfl rfl rfl (fun _ => by kernel_rfl) ?_
      refine q_gyes rfl rfl rfl ?_
      refine q_k (.int .i64 i5_3 : Value) rfl rfl rfl (fun _ => by kernel_rfl) ?_
      refine q_gyes rfl rfl rfl ?_
      obtain ⟨hx16a, hx16b, a_7, hx16, h⟩ := h
      refine q_v (v := (.pointer (some (a_7.add (Int.toNat i5_3))) : Value)) (s := Instr.indexAt 22 (.slice s1_2.a s1_2.n s1_2.c : Value) (.int .i64 i5_3 : Value)) rfl rfl rfl (by kernel_rfl) (fun _ => run_ixs1 (el := 5) (by kernel_rfl) (by kernel_rfl) hx16 hx16a hx16b) ?_
      refine q_gyes rfl rfl rfl ?_
      obtain ⟨t24_8, hx17, h⟩ := h
      refine q_v (v := (.int .u8 t24_8 : Value)) (s := Instr.loadAt 5 (.pointer (some (a_7.add (Int.toNat i5_3))))) rfl rfl rfl (by kernel_rfl) (fun _ => rn_load (by kernel_rfl) hx17) ?_
      refine q_gyes rfl rfl rfl ?_
      refine q_k (.bool ((t20_6 != t24_8)) : Value) rfl rfl rfl (fun _ => by kernel_rfl) ?_
      refine q_k (.bool ((t20_6 != t24_8)) : Value) rfl rfl rfl (fun _ => by kernel_rfl) ?_
      refine q_k (.bool ((t20_6 != t24_8)) : Value) rfl rfl rfl (fun _ => by kernel_rfl) ?_
      refine q_fork ((t20_6 != t24_8)) (fun hb18 => ?_) (fun hb18 => ?_)
      · replace h := h.1 (bne_iff_ne.mp hb18)
        refine q_frame (upd_id (i := 27) (v := .bool true) rfl (congrArg Value.bool hb18)) ?_
        refine q_gno rfl rfl rfl rfl ?_
        refine q_gno rfl rfl rfl rfl ?_
        refine q_gno rfl rfl rfl rfl ?_
        refine q_gno rfl rfl rfl rfl ?_
        refine q_gno rfl rfl rfl rfl ?_
        refine q_gud rfl rfl rfl rfl ?_
        refine q_gud rfl rfl rfl rfl ?_
        refine q_gud rfl rfl rfl rfl ?_
        refine q_gud rfl rfl rfl rfl ?_
        refine q_gud rfl rfl rfl rfl ?_
        refine q_gno rfl rfl rfl rfl ?_
        refine q_k (.bool true : Value) rfl rfl rfl (fun _ => by kernel_rfl) ?_
        refine q_nil (hQq12 _ fun m20 => ?_)
        replace h := h _ ⟨m20, rfl⟩
        generalize w_4.drewN m20 = w_9 at h ⊢
        refine y_then (hK11 _ _ ?_)
        refine y_cond_t rfl rfl ?_
        refine y_seq fun K19 hK19 => ?_
        refine y_region ?_
        refine y_k (.bool false : Value) w_9 rfl rfl rfl (by kernel_rfl) ?_
        refine y_nil ?_
        refine y_then (hK19 _ _ ?_)
        refine y_ret ?_
        repeat (first | refine e_then_r ?_ | refine e_block_r ?_)
        exact (hQ0 _ _ _ (res1 (v := (.bool false : Value)) rfl rfl rfl) ⟨_, rfl, h⟩).1
      · replace h := h.2 (bne_eq_false_iff_eq.mp hb18)
        refine q_frame (upd_id (i := 27) (v := .bool false) rfl (congrArg Value.bool hb18)) ?_
        refine q_gyes rfl rfl rfl ?_
        refine q_k (.int .i64 i5_3 : Value) rfl rfl rfl (fun _ => by kernel_rfl) ?_
        refine q_gyes rfl rfl rfl ?_
        refine q_k (.slice s1_2.a s1_2.n s1_2.c : Value) rfl rfl rfl (fun _ => by kernel_rfl) ?_
        refine q_gyes rfl rfl rfl ?_
        refine q_k (.int .i64 ((s1_2.n : Int)) : Value) rfl rfl rfl (fun _ => by kernel_rfl) ?_
        refine q_gyes rfl rfl rfl ?_
        refine q_k (.bool (decide (i5_3 ≥ ((s1_2.n : Int)))) : Value) rfl rfl rfl (fun _ => by kernel_rfl) ?_
        refine q_gyes rfl rfl rfl ?_
        refine q_k (.bool (decide (i5_3 ≥ ((s1_2.n : Int)))) : Value) rfl rfl rfl (fun _ => by kernel_rfl) ?_
        refine q_fork (decide (i5_3 ≥ ((s1_2.n : Int)))) (fun hb21 => ?_) (fun hb21 => ?_)
        · replace h := h.1 (of_decide_eq_true hb21)
          refine q_frame (upd_id (i := 32) (v := .bool true) rfl (congrArg Value.bool hb21)) ?_
          refine q_gyes rfl rfl rfl ?_
          refine q_k (.slice b0_1.a b0_1.n b0_1.c : Value) rfl rfl rfl (fun _ => by kernel_rfl) ?_
          refine q_gyes rfl rfl rfl ?_
          refine q_k (.int .i64 i5_3 : Value) rfl rfl rfl (fun _ => by kernel_rfl) ?_
          refine q_gyes rfl rfl rfl ?_
          obtain ⟨hx22a, hx22b, a_10, hx22, h⟩ := h
          refine q_v (v := (.pointer (some (a_10.add (Int.toNat i5_3))) : Value)) (s := Instr.indexAt 22 (.slice b0_1.a b0_1.n b0_1.c : Value) (.int .i64 i5_3 : Value)) rfl rfl rfl (by kernel_rfl) (fun _ => run_ixs1 (el := 5) (by kernel_rfl) (by kernel_rfl) hx22 hx22a hx22b) ?_
          refine q_gyes rfl rfl rfl ?_
          obtain ⟨t36_11, hx23, h⟩ := h
          refine q_v (v := (.int .u8 t36_11 : Value)) (s := Instr.loadAt 5 (.pointer (some (a_10.add (Int.toNat i5_3))))) rfl rfl rfl (by kernel_rfl) (fun _ => rn_load (by kernel_rfl) hx23) ?_
          refine q_gyes rfl rfl rfl ?_
          refine q_k (.bool ((t36_11 != 201)) : Value) rfl rfl rfl (fun _ => by kernel_rfl) ?_
          refine q_gyes rfl rfl rfl ?_
          refine q_k (.bool ((t36_11 != 201)) : Value) rfl rfl rfl (fun _ => by kernel_rfl) ?_
          refine q_k (.bool ((t36_11 != 201)) : Value) rfl rfl rfl (fun _ => by kernel_rfl) ?_
          refine q_nil (hQq12 _ fun m26 => ?_)
          replace h := h _ ⟨m26, rfl⟩
          generalize w_4.drewN m26 = w_12 at h ⊢
          refine y_then (hK11 _ _ ?_)
          refine y_cond ((t36_11 != 201)) rfl rfl (fun hb25 => ?_) (fun hb25 => ?_)
          · replace h := h.1 (bne_iff_ne.mp hb25)
            refine y_seq fun K24 hK24 => ?_
            refine y_region ?_
            refine y_k (.bool false : Value) w_12 rfl rfl rfl (by kernel_rfl) ?_
            refine y_nil ?_
            refine y_then (hK24 _ _ ?_)
            refine y_ret ?_
            repeat (first | refine e_then_r ?_ | refine e_block_r ?_)
            exact (hQ0 _ _ _ (res1 (v := (.bool false : Value)) rfl rfl rfl) ⟨_, rfl, h⟩).1
          · replace h := h.2 (bne_eq_false_iff_eq.mp hb25)
            refine y_skip ?_
            refine e_block_n ?_
            refine y_then (hK9 _ _ ?_)
            refine y_region ?_
            refine y_k (.int .i64 i5_3 : Value) w_12 rfl rfl rfl (by kernel_rfl) ?_
            refine y_k (.int .i64 (IntKind.i64.wrap (i5_3 + 1)) : Value) w_12 rfl rfl rfl (by kernel_rfl) ?_
            refine y_k (.int .i64 (IntKind.i64.wrap (i5_3 + 1)) : Value) w_12 rfl rfl rfl (by kernel_rfl) ?_
            refine y_nil ?_
            refine y_then (hN6 (IntKind.i64.wrap (i5_3 + 1)) _ _ h ?_)
            dsimp only
            refine upd_id ?_ rfl
            refine upd_id ?_ rfl
            refine upd_id ?_ rfl
            rfl
        · replace h := h.2 (of_decide_eq_false hb21)
          refine q_frame (upd_id (i := 32) (v := .bool false) rfl (congrArg Value.bool hb21)) ?_
          refine q_gno rfl rfl rfl rfl ?_
          refine q_gno rfl rfl rfl rfl ?_
          refine q_gno rfl rfl rfl rfl ?_
          refine q_gno rfl rfl rfl rfl ?_
          refine q_gno rfl rfl rfl rfl ?_
          refine q_gyes rfl rfl rfl ?_
          refine q_k (.bool false : Value) rfl rfl rfl (fun _ => by kernel_rfl) ?_
          refine q_k (.bool false : Value) rfl rfl rfl (fun _ => by kernel_rfl) ?_
          refine q_nil (hQq12 _ fun m27 => ?_)
          replace h := h _ ⟨m27, rfl⟩
          generalize w_4.drewN m27 = w_13 at h ⊢
          refine y_then (hK11 _ _ ?_)
          refine y_cond_f rfl rfl ?_
          refine y_skip ?_
          refine e_block_n ?_
          refine y_then (hK9 _ _ ?_)
          refine y_region ?_
          refine y_k (.int .i64 i5_3 : Value) w_13 rfl rfl rfl (by kernel_rfl) ?_
          refine y_k (.int .i64 (IntKind.i64.wrap (i5_3 + 1)) : Value) w_13 rfl rfl rfl (by kernel_rfl) ?_
          refine y_k (.int .i64 (IntKind.i64.wrap (i5_3 + 1)) : Value) w_13 rfl rfl rfl (by kernel_rfl) ?_
          refine y_nil ?_
          refine y_then (hN6 (IntKind.i64.wrap (i5_3 + 1)) _ _ h ?_)
          dsimp only
          refine upd_id ?_ rfl
          refine upd_id ?_ rfl
          refine upd_id ?_ rfl
          rfl
    · replace h := h.2 (of_decide_eq_false hb13)
      refine q_frame (upd_id (i := 16) (v := .bool false) rfl (congrArg Value.bool hb13)) ?_
      refine q_gno rfl rfl rfl rfl ?_
      refine q_gno rfl rfl rfl rfl ?_
      refine q_gno rfl rfl rfl rfl ?_
      refine q_gno rfl rfl rfl rfl ?_
      refine q_gno rfl rfl rfl rfl ?_
      refine q_gno rfl rfl rfl rfl ?_
      refine q_gno rfl rfl rfl rfl ?_
      refine q_gno rfl rfl rfl rfl ?_
      refine q_gno rfl rfl rfl rfl ?_
      refine q_k (.bool false : Value) rfl rfl rfl (fun _ => by kernel_rfl) ?_
      refine q_k (.bool false : Value) rfl rfl rfl (fun _ => by kernel_rfl) ?_
      refine q_gyes rfl rfl rfl ?_
      refine q_k (.int .i64 i5_3 : Value) rfl rfl rfl (fun _ => by kernel_rfl) ?_
      refine q_gyes rfl rfl rfl ?_
      refine q_k (.slice s1_2.a s1_2.n s1_2.c : Value) rfl rfl rfl (fun _ => by kernel_rfl) ?_
      refine q_gyes rfl rfl rfl ?_
      refine q_k (.int .i64 ((s1_2.n : Int)) : Value) rfl rfl rfl (fun _ => by kernel_rfl) ?_
      refine q_gyes rfl rfl rfl ?_
      refine q_k (.bool (decide (i5_3 ≥ ((s1_2.n : Int)))) : Value) rfl rfl rfl (fun _ => by kernel_rfl) ?_
      refine q_gyes rfl rfl rfl ?_
      refine q_k (.bool (decide (i5_3 ≥ ((s1_2.n : Int)))) : Value) rfl rfl rfl (fun _ => by kernel_rfl) ?_
      refine q_fork (decide (i5_3 ≥ ((s1_2.n : Int)))) (fun hb28 => ?_) (fun hb28 => ?_)
      · replace h := h.1 (of_decide_eq_true hb28)
        refine q_frame (upd_id (i := 32) (v := .bool true) rfl (congrArg Value.bool hb28)) ?_
        refine q_gyes rfl rfl rfl ?_
        refine q_k (.slice b0_1.a b0_1.n b0_1.c : Value) rfl rfl rfl (fun _ => by kernel_rfl) ?_
        refine q_gyes rfl rfl rfl ?_
        refine q_k (.int .i64 i5_3 : Value) rfl rfl rfl (fun _ => by kernel_rfl) ?_
        refine q_gyes rfl rfl rfl ?_
        obtain ⟨hx29a, hx29b, a_14, hx29, h⟩ := h
        refine q_v (v := (.pointer (some (a_14.add (Int.toNat i5_3))) : Value)) (s := Instr.indexAt 22 (.slice b0_1.a b0_1.n b0_1.c : Value) (.int .i64 i5_3 : Value)) rfl rfl rfl (by kernel_rfl) (fun _ => run_ixs1 (el := 5) (by kernel_rfl) (by kernel_rfl) hx29 hx29a hx29b) ?_
        refine q_gyes rfl rfl rfl ?_
        obtain ⟨t36_15, hx30, h⟩ := h
        refine q_v (v := (.int .u8 t36_15 : Value)) (s := Instr.loadAt 5 (.pointer (some (a_14.add (Int.toNat i5_3))))) rfl rfl rfl (by kernel_rfl) (fun _ => rn_load (by kernel_rfl) hx30) ?_
        refine q_gyes rfl rfl rfl ?_
        refine q_k (.bool ((t36_15 != 201)) : Value) rfl rfl rfl (fun _ => by kernel_rfl) ?_
        refine q_gyes rfl rfl rfl ?_
        refine q_k (.bool ((t36_15 != 201)) : Value) rfl rfl rfl (fun _ => by kernel_rfl) ?_
        refine q_k (.bool ((t36_15 != 201)) : Value) rfl rfl rfl (fun _ => by kernel_rfl) ?_
        refine q_nil (hQq12 _ fun m33 => ?_)
        replace h := h _ ⟨m33, rfl⟩
        generalize w_4.drewN m33 = w_16 at h ⊢
        refine y_then (hK11 _ _ ?_)
        refine y_cond ((t36_15 != 201)) rfl rfl (fun hb32 => ?_) (fun hb32 => ?_)
        · replace h := h.1 (bne_iff_ne.mp hb32)
          refine y_seq fun K31 hK31 => ?_
          refine y_region ?_
          refine y_k (.bool false : Value) w_16 rfl rfl rfl (by kernel_rfl) ?_
          refine y_nil ?_
          refine y_then (hK31 _ _ ?_)
          refine y_ret ?_
          repeat (first | refine e_then_r ?_ | refine e_block_r ?_)
          exact (hQ0 _ _ _ (res1 (v := (.bool false : Value)) rfl rfl rfl) ⟨_, rfl, h⟩).1
        · replace h := h.2 (bne_eq_false_iff_eq.mp hb32)
          refine y_skip ?_
          refine e_block_n ?_
          refine y_then (hK9 _ _ ?_)
          refine y_region ?_
          refine y_k (.int .i64 i5_3 : Value) w_16 rfl rfl rfl (by kernel_rfl) ?_
          refine y_k (.int .i64 (IntKind.i64.wrap (i5_3 + 1)) : Value) w_16 rfl rfl rfl (by kernel_rfl) ?_
          refine y_k (.int .i64 (IntKind.i64.wrap (i5_3 + 1)) : Value) w_16 rfl rfl rfl (by kernel_rfl) ?_
          refine y_nil ?_
          refine y_then (hN6 (IntKind.i64.wrap (i5_3 + 1)) _ _ h ?_)
          dsimp only
          refine upd_id ?_ rfl
          refine upd_id ?_ rfl
          refine upd_id ?_ rfl
          rfl
      · replace h := h.2 (of_decide_eq_false hb28)
        refine q_frame (upd_id (i := 32) (v := .bool false) rfl (congrArg Value.bool hb28)) ?_
        refine q_gno rfl rfl rfl rfl ?_
        refine q_gno rfl rfl rfl rfl ?_
        refine q_gno rfl rfl rfl rfl ?_
        refine q_gno rfl rfl rfl rfl ?_
        refine q_gno rfl rfl rfl rfl ?_
        refine q_gyes rfl rfl rfl ?_
        refine q_k (.bool false : Value) rfl rfl rfl (fun _ => by kernel_rfl) ?_
        refine q_k (.bool false : Value) rfl rfl rfl (fun _ => by kernel_rfl) ?_
        refine q_nil (hQq12 _ fun m34 => ?_)
        replace h := h _ ⟨m34, rfl⟩
        generalize w_4.drewN m34 = w_17 at h ⊢
        refine y_then (hK11 _ _ ?_)
        refine y_cond_f rfl rfl ?_
        refine y_skip ?_
        refine e_block_n ?_
        refine y_then (hK9 _ _ ?_)
        refine y_region ?_
        refine y_k (.int .i64 i5_3 : Value) w_17 rfl rfl rfl (by kernel_rfl) ?_
        refine y_k (.int .i64 (IntKind.i64.wrap (i5_3 + 1)) : Value) w_17 rfl rfl rfl (by kernel_rfl) ?_
        refine y_k (.int .i64 (IntKind.i64.wrap (i5_3 + 1)) : Value) w_17 rfl rfl rfl (by kernel_rfl) ?_
        refine y_nil ?_
        refine y_then (hN6 (IntKind.i64.wrap (i5_3 + 1)) _ _ h ?_)
        dsimp only
        refine upd_id ?_ rfl
        refine upd_id ?_ rfl
        refine upd_id ?_ rfl
        rfl
  · replace h := h.2 (of_decide_eq_false hb36)
    refine y_exit ?_
    repeat (first | refine e_then_x ?_ | refine e_block_y rfl ?_)
    refine e_block_x ?_
    refine y_then (hK2 _ _ ?_)
    refine y_seq fun K35 hK35 => ?_
    refine y_region ?_
    refine y_k (.bool true : Value) w_4 rfl rfl rfl (by kernel_rfl) ?_
    refine y_nil ?_
    refine y_then (hK35 _ _ ?_)
    refine y_ret ?_
    repeat (first | refine e_then_r ?_ | refine e_block_r ?_)
    exact (hQ0 _ _ _ (res1 (v := (.bool true : Value)) rfl rfl rfl) ⟨_, rfl, h⟩).1

def F21_l2 (o0_1 : Option Addr) (l1_2 : Sl) (i5_5 : Int) (next7 : (Int) → World → Prop) (t26_8 : Sl) (next19 : (Int) → World → Prop) : (Int) → World → Prop := fun (k7_9) w_10 =>
  (0 : Int) ≤ i5_5 ∧ i5_5 < (l1_2.n : Int) ∧ ∃ (a_11 : Addr), l1_2.a = some a_11 ∧
  ∃ (t34_12 : Sl), w_10.cell? (a_11.add (Int.toNat i5_5)) = some (.slice t34_12.a t34_12.n t34_12.c) ∧
  ((k7_9 < ((t34_12.n : Int)) →
  (0 : Int) ≤ i5_5 ∧ i5_5 < (l1_2.n : Int) ∧ ∃ (a_13 : Addr), l1_2.a = some a_13 ∧
  ∃ (t42_14 : Sl), w_10.cell? (a_13.add (Int.toNat i5_5)) = some (.slice t42_14.a t42_14.n t42_14.c) ∧
  (0 : Int) ≤ k7_9 ∧ k7_9 < (t42_14.n : Int) ∧ ∃ (a_15 : Addr), t42_14.a = some a_15 ∧
  HasCell w_10 (a_15.add (Int.toNat k7_9)) ∧ ∀ (w_16 : World), w_16 = w_10.setCell (a_15.add (Int.toNat k7_9)) (.int .u8 (IntKind.u8.wrap (IntKind.i64.wrap (((t26_8.n : Int)) + 1))) : Value) →
  next19 (IntKind.i64.wrap (k7_9 + 1)) w_16) ∧
  (¬ (k7_9 < ((t34_12.n : Int))) →
  ∀ (w_17 : World), w_17 = w_10.drew →
  ∃ (a_18 : Addr), o0_1 = some a_18 ∧
  ∃ (t50_19 : Sl), w_17.cell? a_18 = some (.slice t50_19.a t50_19.n t50_19.c) ∧
  (0 : Int) ≤ i5_5 ∧ i5_5 < (l1_2.n : Int) ∧ ∃ (a_20 : Addr), l1_2.a = some a_20 ∧
  ∃ (t54_21 : Sl), w_17.cell? (a_20.add (Int.toNat i5_5)) = some (.slice t54_21.a t54_21.n t54_21.c) ∧
  ∀ (w_22 : World), w_22 = w_17.alloc (.cells #[.slice t54_21.a t54_21.n t54_21.c] 22) → 
  ∃ (t56_23 : Sl), ∃ (w_24 : World), (Builtin.append_ #[26, 26] 26 #[.slice t50_19.a t50_19.n t50_19.c, .slice (some ⟨w_17.heap.size, 0, none⟩) 1 1]).run Try.prog w_22 = .ok (.slice t56_23.a t56_23.n t56_23.c : Value) w_24 ∧ 
  ∃ (a_25 : Addr), o0_1 = some a_25 ∧
  HasCell w_24 a_25 ∧ ∀ (w_26 : World), w_26 = w_24.setCell a_25 (.slice t56_23.a t56_23.n t56_23.c : Value) → 
  ∃ (a_27 : Addr), o0_1 = some a_27 ∧
  ∃ (t63_28 : Sl), w_26.cell? (a_27.add 1) = some (.slice t63_28.a t63_28.n t63_28.c) ∧
  ∀ (w_29 : World), w_29 = w_26.alloc (.cells #[.int .u8 (IntKind.u8.wrap (IntKind.i64.wrap (((t26_8.n : Int)) + 1)))] 5) →
  ∃ (t66_30 : Sl), ∃ (w_31 : World), (Builtin.append_ #[22, 22] 22 #[.slice t63_28.a t63_28.n t63_28.c, .slice (some ⟨w_26.heap.size, 0, none⟩) 1 1]).run Try.prog w_29 = .ok (.slice t66_30.a t66_30.n t66_30.c : Value) w_31 ∧
  ∃ (a_32 : Addr), o0_1 = some a_32 ∧
  HasCell w_31 (a_32.add 1) ∧ ∀ (w_33 : World), w_33 = w_31.setCell (a_32.add 1) (.slice t66_30.a t66_30.n t66_30.c : Value) →
  next7 (IntKind.i64.wrap (i5_5 + 1)) w_33))
def F21_l4 (o0_1 : Option Addr) (i9_36 : Int) (next52 : (Int) → World → Prop) (next66 : (Sl × Int) → World → Prop) : (Sl × Int) → World → Prop := fun (g10_42, k11_43) w_44 =>
  ((k11_43 < 70 →
  ∃ (a_45 : Addr), o0_1 = some a_45 ∧
  ∃ (t95_46 : Sl), w_44.cell? (a_45.add 1) = some (.slice t95_46.a t95_46.n t95_46.c) ∧
  (0 : Int) ≤ i9_36 ∧ i9_36 < (t95_46.n : Int) ∧ ∃ (a_47 : Addr), t95_46.a = some a_47 ∧
  ∃ (t98_48 : Int), w_44.cell? (a_47.add (Int.toNat i9_36)) = some (.int .u8 t98_48) ∧
  ∀ (w_49 : World), w_49 = w_44.alloc (.cells #[.int .u8 t98_48] 5) →
  ∃ (t100_50 : Sl), ∃ (w_51 : World), (Builtin.append_ #[22, 22] 22 #[.slice g10_42.a g10_42.n g10_42.c, .slice (some ⟨w_44.heap.size, 0, none⟩) 1 1]).run Try.prog w_49 = .ok (.slice t100_50.a t100_50.n t100_50.c : Value) w_51 ∧
  next66 (t100_50, IntKind.i64.wrap (k11_43 + 1)) w_51) ∧
  (¬ (k11_43 < 70) →
  ∃ (a_52 : Addr), o0_1 = some a_52 ∧
  ∃ (t105_53 : Sl), w_44.cell? a_52 = some (.slice t105_53.a t105_53.n t105_53.c) ∧
  ∀ (w_54 : World), w_54 = w_44.alloc (.cells #[.slice g10_42.a g10_42.n g10_42.c] 22) →
  ∃ (t108_55 : Sl), ∃ (w_56 : World), (Builtin.append_ #[26, 26] 26 #[.slice t105_53.a t105_53.n t105_53.c, .slice (some ⟨w_44.heap.size, 0, none⟩) 1 1]).run Try.prog w_54 = .ok (.slice t108_55.a t108_55.n t108_55.c : Value) w_56 ∧
  ∃ (a_57 : Addr), o0_1 = some a_57 ∧
  HasCell w_56 a_57 ∧ ∀ (w_58 : World), w_58 = w_56.setCell a_57 (.slice t108_55.a t108_55.n t108_55.c : Value) →
  ∀ (w_59 : World), w_59 = w_58.drew →
  ∃ (a_60 : Addr), o0_1 = some a_60 ∧
  ∃ (t115_61 : Sl), w_59.cell? (a_60.add 1) = some (.slice t115_61.a t115_61.n t115_61.c) ∧
  ∃ (a_62 : Addr), o0_1 = some a_62 ∧
  ∃ (t119_63 : Sl), w_59.cell? (a_62.add 1) = some (.slice t119_63.a t119_63.n t119_63.c) ∧
  (0 : Int) ≤ i9_36 ∧ i9_36 < (t119_63.n : Int) ∧ ∃ (a_64 : Addr), t119_63.a = some a_64 ∧
  ∃ (t122_65 : Int), w_59.cell? (a_64.add (Int.toNat i9_36)) = some (.int .u8 t122_65) ∧
  ∀ (w_66 : World), w_66 = w_59.alloc (.cells #[.int .u8 t122_65] 5) → 
  ∃ (t124_67 : Sl), ∃ (w_68 : World), (Builtin.append_ #[22, 22] 22 #[.slice t115_61.a t115_61.n t115_61.c, .slice (some ⟨w_59.heap.size, 0, none⟩) 1 1]).run Try.prog w_66 = .ok (.slice t124_67.a t124_67.n t124_67.c : Value) w_68 ∧ 
  ∃ (a_69 : Addr), o0_1 = some a_69 ∧
  HasCell w_68 (a_69.add 1) ∧ ∀ (w_70 : World), w_70 = w_68.setCell (a_69.add 1) (.slice t124_67.a t124_67.n t124_67.c : Value) → 
  next52 (IntKind.i64.wrap (i9_36 + 1)) w_70))
def F21_l3 (o0_1 : Option Addr) (K : World → Prop) (t72_35 : Sl) (next52 : (Int) → World → Prop) : (Int) → World → Prop := fun (i9_36) w_37 =>
  ((i9_36 < ((t72_35.n : Int)) →
  ∃ (a_38 : Addr), o0_1 = some a_38 ∧
  ∃ (t83_39 : Sl), w_37.cell? a_38 = some (.slice t83_39.a t83_39.n t83_39.c) ∧
  (0 : Int) ≤ i9_36 ∧ i9_36 < (t83_39.n : Int) ∧ ∃ (a_40 : Addr), t83_39.a = some a_40 ∧
  ∃ (t86_41 : Sl), w_37.cell? (a_40.add (Int.toNat i9_36)) = some (.slice t86_41.a t86_41.n t86_41.c) ∧
  kLoop (F21_l4 o0_1 i9_36 next52) (t86_41, 0) w_37) ∧
  (¬ (i9_36 < ((t72_35.n : Int))) →
  K w_37))
def F21_l1 (o0_1 : Option Addr) (l1_2 : Sl) (K : World → Prop) (t15_4 : Sl) (next7 : (Int) → World → Prop) : (Int) → World → Prop := fun (i5_5) w_6 =>
  ((i5_5 < ((l1_2.n : Int)) →
  ∃ (a_7 : Addr), o0_1 = some a_7 ∧
  ∃ (t26_8 : Sl), w_6.cell? a_7 = some (.slice t26_8.a t26_8.n t26_8.c) ∧
  kLoop (F21_l2 o0_1 l1_2 i5_5 next7 t26_8) (0) w_6) ∧
  (¬ (i5_5 < ((l1_2.n : Int))) →
  ∃ (a_34 : Addr), o0_1 = some a_34 ∧
  ∃ (t72_35 : Sl), w_6.cell? a_34 = some (.slice t72_35.a t72_35.n t72_35.c) ∧
  kLoop (F21_l3 o0_1 K t72_35) ((t15_4.n : Int)) w_6))
/-- (*turnkey/turnkeylaw01.owner).fill -/
def F21 (o0_1 : Option Addr) (l1_2 : Sl) (K : World → Prop) (w : World) : Prop :=
  ∃ (a_3 : Addr), o0_1 = some a_3 ∧
  ∃ (t15_4 : Sl), w.cell? a_3 = some (.slice t15_4.a t15_4.n t15_4.c) ∧
  kLoop (F21_l1 o0_1 l1_2 K t15_4) (0) w
set_option maxHeartbeats 4000000 in
set_option maxRecDepth 20000 in
theorem F21_sound (o0_1 : Option Addr) (l1_2 : Sl) (K : World → Prop) (w : World) (h : F21 o0_1 l1_2 K w) :
    Calls Try.prog 21 #[.pointer o0_1, .slice l1_2.a l1_2.n l1_2.c] w (fun e w1 => e = .returned (.tuple #[]) ∧ K  w1) := by
  unfold F21 at h
  refine y_enter (n := 127) (args := [.pointer o0_1, .slice l1_2.a l1_2.n l1_2.c]) Try.func21 rfl rfl rfl fun Q0 hQ0 => ?_
  refine y_seq fun K1 hK1 => ?_
  refine y_region ?_
  refine y_k (.pointer o0_1 : Value) w rfl rfl rfl (by kernel_rfl) ?_
  obtain ⟨a_3, hx2, h⟩ := h
  refine y_k (.pointer (some a_3) : Value) w rfl rfl rfl (run_nilCheck hx2 rfl) ?_
  refine y_k (.pointer (some a_3) : Value) w rfl rfl rfl (by kernel_rfl) ?_
  obtain ⟨t15_4, hx3, h⟩ := h
  refine y_v (s := Instr.loadAt 26 (.pointer (some a_3))) rfl rfl rfl (by kernel_rfl) (rn_load (by kernel_rfl) hx3) ?_
  refine y_k (.int .i64 ((t15_4.n : Int)) : Value) w rfl rfl rfl (by kernel_rfl) ?_
  refine y_k (.int .i64 ((t15_4.n : Int)) : Value) w rfl rfl rfl (by kernel_rfl) ?_
  refine y_nil ?_
  refine y_then (hK1 _ _ ?_)
  refine y_seq fun K4 hK4 => ?_
  refine y_seq fun K5 hK5 => ?_
  refine y_region ?_
  refine y_k (.int .i64 0 : Value) w rfl rfl rfl (by kernel_rfl) ?_
  refine y_nil ?_
  refine y_then (hK5 _ _ ?_)
  refine y_block ?_
  refine y_loop (S := Int) (fun s j => match s with | (i5_5) => upd (upd (upd (upd (j) 0 (.pointer o0_1 : Value)) 1 (.slice l1_2.a l1_2.n l1_2.c : Value)) 4 (.int .i64 ((t15_4.n : Int)) : Value)) 5 (.int .i64 i5_5 : Value)) (0) ?_ h ?_
  · dsimp only
    refine upd_id ?_ rfl
    refine upd_id ?_ rfl
    refine upd_id ?_ rfl
    refine upd_id ?_ rfl
    rfl
  rintro KN8 next7 hN8 i5_5 j w_6 h
  unfold F21_l1 at h
  refine y_seq fun K9 hK9 => ?_
  refine y_seq fun K10 hK10 => ?_
  refine y_region ?_
  refine y_k (.int .i64 i5_5 : Value) w_6 rfl rfl rfl (by kernel_rfl) ?_
  refine y_k (.slice l1_2.a l1_2.n l1_2.c : Value) w_6 rfl rfl rfl (by kernel_rfl) ?_
  refine y_k (.int .i64 ((l1_2.n : Int)) : Value) w_6 rfl rfl rfl (by kernel_rfl) ?_
  refine y_k (.bool (decide (i5_5 < ((l1_2.n : Int)))) : Value) w_6 rfl rfl rfl (by kernel_rfl) ?_
  refine y_nil ?_
  refine y_then (hK10 _ _ ?_)
  refine y_cond (decide (i5_5 < ((l1_2.n : Int)))) rfl rfl (fun hb96 => ?_) (fun hb96 => ?_)
  · replace h := h.1 (of_decide_eq_true hb96)
    refine y_skip ?_
    refine y_then (hK9 _ _ ?_)
    refine y_seq fun K11 hK11 => ?_
    refine y_block ?_
    refine y_seq fun K13 hK13 => ?_
    refine y_region ?_
    refine y_k (.pointer o0_1 : Value) w_6 rfl rfl rfl (by kernel_rfl) ?_
    obtain ⟨a_7, hx14, h⟩ := h
    refine y_k (.pointer (some a_7) : Value) w_6 rfl rfl rfl (run_nilCheck hx14 rfl) ?_
    refine y_k (.pointer (some a_7) : Value) w_6 rfl rfl rfl (by kernel_rfl) ?_
    obtain ⟨t26_8, hx15, h⟩ := h
    refine y_v (s := Instr.loadAt 26 (.pointer (some a_7))) rfl rfl rfl (by kernel_rfl) (rn_load (by kernel_rfl) hx15) ?_
    refine y_k (.int .i64 ((t26_8.n : Int)) : Value) w_6 rfl rfl rfl (by kernel_rfl) ?_
    refine y_k (.int .i64 (IntKind.i64.wrap (((t26_8.n : Int)) + 1)) : Value) w_6 rfl rfl rfl (by kernel_rfl) ?_
    refine y_k (.int .u8 (IntKind.u8.wrap (IntKind.i64.wrap (((t26_8.n : Int)) + 1))) : Value) w_6 rfl rfl rfl (by kernel_rfl) ?_
    refine y_k (.int .u8 (IntKind.u8.wrap (IntKind.i64.wrap (((t26_8.n : Int)) + 1))) : Value) w_6 rfl rfl rfl (by kernel_rfl) ?_
    refine y_nil ?_
    refine y_then (hK13 _ _ ?_)
    refine y_seq fun K16 hK16 => ?_
    refine y_seq fun K17 hK17 => ?_
    refine y_region ?_
    refine y_k (.int .i64 0 : Value) w_6 rfl rfl rfl (by kernel_rfl) ?_
    refine y_nil ?_
    refine y_then (hK17 _ _ ?_)
    refine y_block ?_
    refine y_loop (S := Int) (fun s j => match s with | (k7_9) => upd (upd (upd (upd (upd (upd (j) 0 (.pointer o0_1 : Value)) 1 (.slice l1_2.a l1_2.n l1_2.c : Value)) 4 (.int .i64 ((t15_4.n : Int)) : Value)) 5 (.int .i64 i5_5 : Value)) 6 (.int .u8 (IntKind.u8.wrap (IntKind.i64.wrap (((t26_8.n : Int)) + 1))) : Value)) 7 (.int .i64 k7_9 : Value)) (0) ?_ h ?_
    · dsimp only
      refine upd_id ?_ rfl
      refine upd_id ?_ rfl
      refine upd_id ?_ rfl
      refine upd_id ?_ rfl
      refine upd_id ?_ rfl
      refine upd_id ?_ rfl
      rfl
    rintro KN20 next19 hN20 k7_9 j w_10 h
    unfold F21_l2 at h
    refine y_seq fun K21 hK21 => ?_
    refine y_seq fun K22 hK22 => ?_
    refine y_region ?_
    refine y_k (.int .i64 k7_9 : Value) w_10 rfl rfl rfl (by kernel_rfl) ?_
    refine y_k (.slice l1_2.a l1_2.n l1_2.c : Value) w_10 rfl rfl rfl (by kernel_rfl) ?_
    refine y_k (.int .i64 i5_5 : Value) w_10 rfl rfl rfl (by kernel_rfl) ?_
    obtain ⟨hx23a, hx23b, a_11, hx23, h⟩ := h
    refine y_v (v := (.pointer (some (a_11.add (Int.toNat i5_5))) : Value)) (s := Instr.indexAt 26 (.slice l1_2.a l1_2.n l1_2.c : Value) (.int .i64 i5_5 : Value)) rfl rfl rfl (by kernel_rfl) (run_ixs1 (el := 22) (by kernel_rfl) (by kernel_rfl) hx23 hx23a hx23b) ?_
    obtain ⟨t34_12, hx24, h⟩ := h
    refine y_v (s := Instr.loadAt 22 (.pointer (some (a_11.add (Int.toNat i5_5))))) rfl rfl rfl (by kernel_rfl) (rn_load (by kernel_rfl) hx24) ?_
    refine y_k (.int .i64 ((t34_12.n : Int)) : Value) w_10 rfl rfl rfl (by kernel_rfl) ?_
    refine y_k (.bool (decide (k7_9 < ((t34_12.n : Int)))) : Value) w_10 rfl rfl rfl (by kernel_rfl) ?_
    refine y_nil ?_
    refine y_then (hK22 _ _ ?_)
    refine y_cond (decide (k7_9 < ((t34_12.n : Int)))) rfl rfl (fun hb46 => ?_) (fun hb46 => ?_)
    · replace h := h.1 (of_decide_eq_true hb46)
      refine y_skip ?_
      refine y_then (hK21 _ _ ?_)
      refine y_seq fun K25 hK25 => ?_
      refine y_block ?_
      refine y_region ?_
      refine y_k (.slice l1_2.a l1_2.n l1_2.c : Value) w_10 rfl rfl rfl (by kernel_rfl) ?_
      refine y_k (.int .i64 i5_5 : Value) w_10 rfl rfl rfl (by kernel_rfl) ?_
      obtain ⟨hx27a, hx27b, a_13, hx27, h⟩ := h
      refine y_v (v := (.pointer (some (a_13.add (Int.toNat i5_5))) : Value)) (s := Instr.indexAt 26 (.slice l1_2.a l1_2.n l1_2.c : Value) (.int .i64 i5_5 : Value)) rfl rfl rfl (by kernel_rfl) (run_ixs1 (el := 22) (by kernel_rfl) (by kernel_rfl) hx27 hx27a hx27b) ?_
      obtain ⟨t42_14, hx28, h⟩ := h
      refine y_v (s := Instr.loadAt 22 (.pointer (some (a_13.add (Int.toNat i5_5))))) rfl rfl rfl (by kernel_rfl) (rn_load (by kernel_rfl) hx28) ?_
      refine y_k (.int .i64 k7_9 : Value) w_10 rfl rfl rfl (by kernel_rfl) ?_
      refine y_k (.int .u8 (IntKind.u8.wrap (IntKind.i64.wrap (((t26_8.n : Int)) + 1))) : Value) w_10 rfl rfl rfl (by kernel_rfl) ?_
      obtain ⟨hx29a, hx29b, a_15, hx29, h⟩ := h
      refine y_v (v := (.pointer (some (a_15.add (Int.toNat k7_9))) : Value)) (s := Instr.indexAt 22 (.slice t42_14.a t42_14.n t42_14.c : Value) (.int .i64 k7_9 : Value)) rfl rfl rfl (by kernel_rfl) (run_ixs1 (el := 5) (by kernel_rfl) (by kernel_rfl) hx29 hx29a hx29b) ?_
      obtain ⟨hx30, h⟩ := h
      replace h := h _ rfl
      refine y_u (s := Instr.storeAt 5 (.pointer (some (a_15.add (Int.toNat k7_9)))) (.int .u8 (IntKind.u8.wrap (IntKind.i64.wrap (((t26_8.n : Int)) + 1))) : Value)) rfl rfl (by kernel_rfl) (rn_store1 (by kernel_rfl) rfl hx30) ?_
      generalize w_10.setCell (a_15.add (Int.toNat k7_9)) (.int .u8 (IntKind.u8.wrap (IntKind.i64.wrap (((t26_8.n : Int)) + 1))) : Value) = w_16 at h ⊢
      refine y_nil ?_
      refine e_block_n ?_
      refine y_then (hK25 _ _ ?_)
      refine y_region ?_
      refine y_k (.int .i64 k7_9 : Value) w_16 rfl rfl rfl (by kernel_rfl) ?_
      refine y_k (.int .i64 (IntKind.i64.wrap (k7_9 + 1)) : Value) w_16 rfl rfl rfl (by kernel_rfl) ?_
      refine y_k (.int .i64 (IntKind.i64.wrap (k7_9 + 1)) : Value) w_16 rfl rfl rfl (by kernel_rfl) ?_
      refine y_nil ?_
      refine y_then (hN20 (IntKind.i64.wrap (k7_9 + 1)) _ _ h ?_)
      dsimp only
      refine upd_id ?_ rfl
      refine upd_id ?_ rfl
      refine upd_id ?_ rfl
      refine upd_id ?_ rfl
      refine upd_id ?_ rfl
      refine upd_id ?_ rfl
      rfl
    · replace h := h.2 (of_decide_eq_false hb46)
      refine y_exit ?_
      repeat (first | refine e_then_x ?_ | refine e_block_y rfl ?_)
      refine e_block_x ?_
      refine y_then (hK16 _ _ ?_)
      refine y_seq fun K31 hK31 => ?_
      obtain ⟨w_17, hwd32⟩ : ∃ wd : World, wd = w_10.drew := ⟨_, rfl⟩
      replace h := h _ hwd32
      refine t_region (wd := w_17) [] (by kernel_rfl) hwd32 SF_nil fun Q32 hE32 hp32 hS => ?_
      clear hwd32
      refine t_kw hp32 hS 0 (.pointer o0_1 : Value) rfl (wanted_none rfl) rfl rfl (by kernel_rfl) (fun _ _ => by kernel_rfl) fun hS => ?_
      refine t_kw hp32 hS 1 (.pointer o0_1 : Value) rfl (wanted_none rfl) rfl rfl (by kernel_rfl) (fun _ _ => by kernel_rfl) fun hS => ?_
      obtain ⟨a_18, hx33, h⟩ := h
      refine t_kw hp32 hS 2 (.pointer (some a_18) : Value) rfl (wanted_none rfl) rfl rfl (by kernel_rfl) (fun _ _ => run_nilCheck hx33 rfl) fun hS => ?_
      refine t_kw hp32 hS 3 (.pointer (some a_18) : Value) rfl (wanted_none rfl) rfl rfl (by kernel_rfl) (fun _ _ => by kernel_rfl) fun hS => ?_
      obtain ⟨t50_19, hx34, h⟩ := h
      refine t_add ⟨4, [10, 13], fun wx => wx.cell? a_18 = some (.slice t50_19.a t50_19.n t50_19.c)⟩ ?_
      replace hS := SF_on (x := ⟨4, [10, 13], fun wx => wx.cell? a_18 = some (.slice t50_19.a t50_19.n t50_19.c)⟩) hx34 hS
      refine t_v (s := Instr.loadAt 26 (.pointer (some a_18))) hp32 hS 4 (.slice t50_19.a t50_19.n t50_19.c : Value) rfl (wanted_none rfl) rfl rfl (by kernel_rfl) (by kernel_rfl) (fun _ hw => rn_load (by kernel_rfl) (Sw.fact (List.Mem.head _) rfl hw)) fun hS => ?_
      refine t_kw hp32 hS 5 (.slice l1_2.a l1_2.n l1_2.c : Value) rfl (wanted_none rfl) rfl rfl (by kernel_rfl) (fun _ _ => by kernel_rfl) fun hS => ?_
      refine t_kw hp32 hS 6 (.int .i64 i5_5 : Value) rfl (wanted_none rfl) rfl rfl (by kernel_rfl) (fun _ _ => by kernel_rfl) fun hS => ?_
      obtain ⟨hx35a, hx35b, a_20, hx35, h⟩ := h
      refine t_v (s := Instr.indexAt 26 (.slice l1_2.a l1_2.n l1_2.c : Value) (.int .i64 i5_5 : Value)) hp32 hS 7 (.pointer (some (a_20.add (Int.toNat i5_5))) : Value) rfl (wanted_none rfl) rfl rfl (by kernel_rfl) (by kernel_rfl) (fun _ _ => run_ixs1 (el := 22) (by kernel_rfl) (by kernel_rfl) hx35 hx35a hx35b) fun hS => ?_
      obtain ⟨t54_21, hx36, h⟩ := h
      refine t_add ⟨8, [9, 10, 13], fun wx => wx.cell? (a_20.add (Int.toNat i5_5)) = some (.slice t54_21.a t54_21.n t54_21.c)⟩ ?_
      replace hS := SF_on (x := ⟨8, [9, 10, 13], fun wx => wx.cell? (a_20.add (Int.toNat i5_5)) = some (.slice t54_21.a t54_21.n t54_21.c)⟩) hx36 hS
      refine t_v (s := Instr.loadAt 22 (.pointer (some (a_20.add (Int.toNat i5_5))))) hp32 hS 8 (.slice t54_21.a t54_21.n t54_21.c : Value) rfl (wanted_none rfl) rfl rfl (by kernel_rfl) (by kernel_rfl) (fun _ hw => rn_load (by kernel_rfl) (Sw.fact (List.Mem.head _) rfl hw)) fun hS => ?_
      replace h := h _ rfl
      have hx37 := cell_alloc (ob := (.cells #[.slice t54_21.a t54_21.n t54_21.c] 22)) hx34
      refine t_kstep 9 (.slice (some ⟨w_17.heap.size, 0, none⟩) 1 1 : Value) (w_17.alloc (.cells #[.slice t54_21.a t54_21.n t54_21.c] 22)) (by kernel_rfl) rfl (wanted_none rfl) rfl rfl (by kernel_rfl) (SF_off (by kernel_rfl) (by kernel_rfl) (SF_on hx37 SF_nil)) fun hS => ?_
      generalize w_17.alloc (.cells #[.slice t54_21.a t54_21.n t54_21.c] 22) = w_22 at hx37 hS h ⊢
      obtain ⟨t56_23, w_24, hx38, h⟩ := h
      refine t_w 10 (s := Builtin.append_ #[26, 26] 26 #[.slice t50_19.a t50_19.n t50_19.c, .slice (some ⟨w_17.heap.size, 0, none⟩) 1 1]) (by kernel_rfl) rfl (wanted_none rfl) rfl rfl (by kernel_rfl) hx38 (SF_off (by kernel_rfl) (by kernel_rfl) (SF_off (by kernel_rfl) (by kernel_rfl) SF_nil)) fun hS => ?_
      obtain ⟨a_25, hx39, h⟩ := h
      refine t_kw hp32 hS 11 (.pointer (some a_25) : Value) rfl (wanted_none rfl) rfl rfl (by kernel_rfl) (fun _ _ => run_nilCheck hx39 rfl) fun hS => ?_
      refine t_kw hp32 hS 12 (.pointer (some a_25) : Value) rfl (wanted_none rfl) rfl rfl (by kernel_rfl) (fun _ _ => by kernel_rfl) fun hS => ?_
      obtain ⟨hx40, h⟩ := h
      replace h := h _ rfl
      refine t_u 13 (s := Instr.storeAt 26 (.pointer (some a_25)) (.slice t56_23.a t56_23.n t56_23.c : Value)) (by kernel_rfl) rfl (wanted_none rfl) rfl (by kernel_rfl) (rn_store1 (by kernel_rfl) rfl hx40) (SF_off (by kernel_rfl) (by kernel_rfl) (SF_off (by kernel_rfl) (by kernel_rfl) SF_nil)) fun hS => ?_
      generalize w_24.setCell a_25 (.slice t56_23.a t56_23.n t56_23.c : Value) = w_26 at hS h ⊢
      refine t_done (by kernel_rfl) (hE32 _ _ ?_)
      refine y_then (hK31 _ _ ?_)
      refine y_region ?_
      refine y_k (.pointer o0_1 : Value) w_26 rfl rfl rfl (by kernel_rfl) ?_
      refine y_k (.pointer o0_1 : Value) w_26 rfl rfl rfl (by kernel_rfl) ?_
      obtain ⟨a_27, hx41, h⟩ := h
      refine y_k (.pointer (some a_27) : Value) w_26 rfl rfl rfl (run_nilCheck hx41 rfl) ?_
      refine y_k (.pointer (some (a_27.add 1)) : Value) w_26 rfl rfl rfl (by kernel_rfl) ?_
      obtain ⟨t63_28, hx42, h⟩ := h
      refine y_v (s := Instr.loadAt 22 (.pointer (some (a_27.add 1)))) rfl rfl rfl (by kernel_rfl) (rn_load (by kernel_rfl) hx42) ?_
      refine y_k (.int .u8 (IntKind.u8.wrap (IntKind.i64.wrap (((t26_8.n : Int)) + 1))) : Value) w_26 rfl rfl rfl (by kernel_rfl) ?_
      refine y_k (.slice (some ⟨w_26.heap.size, 0, none⟩) 1 1 : Value) (w_26.alloc (.cells #[.int .u8 (IntKind.u8.wrap (IntKind.i64.wrap (((t26_8.n : Int)) + 1)))] 5)) rfl rfl rfl (by kernel_rfl) ?_
      replace h := h _ rfl
      generalize w_26.alloc (.cells #[.int .u8 (IntKind.u8.wrap (IntKind.i64.wrap (((t26_8.n : Int)) + 1)))] 5) = w_29 at h ⊢
      obtain ⟨t66_30, w_31, hx43, h⟩ := h
      refine y_v (s := Builtin.append_ #[22, 22] 22 #[.slice t63_28.a t63_28.n t63_28.c, .slice (some ⟨w_26.heap.size, 0, none⟩) 1 1]) rfl rfl rfl (by kernel_rfl) hx43 ?_
      obtain ⟨a_32, hx44, h⟩ := h
      refine y_k (.pointer (some a_32) : Value) w_31 rfl rfl rfl (run_nilCheck hx44 rfl) ?_
      refine y_k (.pointer (some (a_32.add 1)) : Value) w_31 rfl rfl rfl (by kernel_rfl) ?_
      obtain ⟨hx45, h⟩ := h
      replace h := h _ rfl
      refine y_u (s := Instr.storeAt 22 (.pointer (some (a_32.add 1))) (.slice t66_30.a t66_30.n t66_30.c : Value)) rfl rfl (by kernel_rfl) (rn_store1 (by kernel_rfl) rfl hx45) ?_
      generalize w_31.setCell (a_32.add 1) (.slice t66_30.a t66_30.n t66_30.c : Value) = w_33 at h ⊢
      refine y_nil ?_
      refine e_block_n ?_
      refine y_then (hK11 _ _ ?_)
      refine y_region ?_
      refine y_k (.int .i64 i5_5 : Value) w_33 rfl rfl rfl (by kernel_rfl) ?_
      refine y_k (.int .i64 (IntKind.i64.wrap (i5_5 + 1)) : Value) w_33 rfl rfl rfl (by kernel_rfl) ?_
      refine y_k (.int .i64 (IntKind.i64.wrap (i5_5 + 1)) : Value) w_33 rfl rfl rfl (by kernel_rfl) ?_
      refine y_nil ?_
      refine y_then (hN8 (IntKind.i64.wrap (i5_5 + 1)) _ _ h ?_)
      dsimp only
      refine upd_id ?_ rfl
      refine upd_id ?_ rfl
      refine upd_id ?_ rfl
      refine upd_id ?_ rfl
      rfl
  · replace h := h.2 (of_decide_eq_false hb96)
    refine y_exit ?_
    repeat (first | refine e_then_x ?_ | refine e_block_y rfl ?_)
    refine e_block_x ?_
    refine y_then (hK4 _ _ ?_)
    refine y_seq fun K47 hK47 => ?_
    refine y_region ?_
    refine y_k (.pointer o0_1 : Value) w_6 rfl rfl rfl (by kernel_rfl) ?_
    obtain ⟨a_34, hx48, h⟩ := h
    refine y_k (.pointer (some a_34) : Value) w_6 rfl rfl rfl (run_nilCheck hx48 rfl) ?_
    refine y_k (.pointer (some a_34) : Value) w_6 rfl rfl rfl (by kernel_rfl) ?_
    obtain ⟨t72_35, hx49, h⟩ := h
    refine y_v (s := Instr.loadAt 26 (.pointer (some a_34))) rfl rfl rfl (by kernel_rfl) (rn_load (by kernel_rfl) hx49) ?_
    refine y_k (.int .i64 ((t72_35.n : Int)) : Value) w_6 rfl rfl rfl (by kernel_rfl) ?_
    refine y_k (.int .i64 ((t72_35.n : Int)) : Value) w_6 rfl rfl rfl (by kernel_rfl) ?_
    refine y_nil ?_
    refine y_then (hK47 _ _ ?_)
    refine y_seq fun K50 hK50 => ?_
    refine y_region ?_
    refine y_k (.int .i64 ((t15_4.n : Int)) : Value) w_6 rfl rfl rfl (by kernel_rfl) ?_
    refine y_k (.int .i64 ((t15_4.n : Int)) : Value) w_6 rfl rfl rfl (by kernel_rfl) ?_
    refine y_nil ?_
    refine y_then (hK50 _ _ ?_)
    refine y_block ?_
    refine y_loop (S := Int) (fun s j => match s with | (i9_36) => upd (upd (upd (j) 0 (.pointer o0_1 : Value)) 8 (.int .i64 ((t72_35.n : Int)) : Value)) 9 (.int .i64 i9_36 : Value)) ((t15_4.n : Int)) ?_ h ?_
    · dsimp only
      refine upd_id ?_ rfl
      refine upd_id ?_ rfl
      refine upd_id ?_ rfl
      rfl
    rintro KN53 next52 hN53 i9_36 j w_37 h
    unfold F21_l3 at h
    refine y_seq fun K54 hK54 => ?_
    refine y_seq fun K55 hK55 => ?_
    refine y_region ?_
    refine y_k (.int .i64 i9_36 : Value) w_37 rfl rfl rfl (by kernel_rfl) ?_
    refine y_k (.int .i64 ((t72_35.n : Int)) : Value) w_37 rfl rfl rfl (by kernel_rfl) ?_
    refine y_k (.bool (decide (i9_36 < ((t72_35.n : Int)))) : Value) w_37 rfl rfl rfl (by kernel_rfl) ?_
    refine y_nil ?_
    refine y_then (hK55 _ _ ?_)
    refine y_cond (decide (i9_36 < ((t72_35.n : Int)))) rfl rfl (fun hb95 => ?_) (fun hb95 => ?_)
    · replace h := h.1 (of_decide_eq_true hb95)
      refine y_skip ?_
      refine y_then (hK54 _ _ ?_)
      refine y_seq fun K56 hK56 => ?_
      refine y_block ?_
      refine y_seq fun K58 hK58 => ?_
      refine y_region ?_
      refine y_k (.pointer o0_1 : Value) w_37 rfl rfl rfl (by kernel_rfl) ?_
      obtain ⟨a_38, hx59, h⟩ := h
      refine y_k (.pointer (some a_38) : Value) w_37 rfl rfl rfl (run_nilCheck hx59 rfl) ?_
      refine y_k (.pointer (some a_38) : Value) w_37 rfl rfl rfl (by kernel_rfl) ?_
      obtain ⟨t83_39, hx60, h⟩ := h
      refine y_v (s := Instr.loadAt 26 (.pointer (some a_38))) rfl rfl rfl (by kernel_rfl) (rn_load (by kernel_rfl) hx60) ?_
      refine y_k (.int .i64 i9_36 : Value) w_37 rfl rfl rfl (by kernel_rfl) ?_
      obtain ⟨hx61a, hx61b, a_40, hx61, h⟩ := h
      refine y_v (v := (.pointer (some (a_40.add (Int.toNat i9_36))) : Value)) (s := Instr.indexAt 26 (.slice t83_39.a t83_39.n t83_39.c : Value) (.int .i64 i9_36 : Value)) rfl rfl rfl (by kernel_rfl) (run_ixs1 (el := 22) (by kernel_rfl) (by kernel_rfl) hx61 hx61a hx61b) ?_
      obtain ⟨t86_41, hx62, h⟩ := h
      refine y_v (s := Instr.loadAt 22 (.pointer (some (a_40.add (Int.toNat i9_36))))) rfl rfl rfl (by kernel_rfl) (rn_load (by kernel_rfl) hx62) ?_
      refine y_k (.slice t86_41.a t86_41.n t86_41.c : Value) w_37 rfl rfl rfl (by kernel_rfl) ?_
      refine y_nil ?_
      refine y_then (hK58 _ _ ?_)
      refine y_seq fun K63 hK63 => ?_
      refine y_seq fun K64 hK64 => ?_
      refine y_region ?_
      refine y_k (.int .i64 0 : Value) w_37 rfl rfl rfl (by kernel_rfl) ?_
      refine y_nil ?_
      refine y_then (hK64 _ _ ?_)
      refine y_block ?_
      refine y_loop (S := Sl × Int) (fun s j => match s with | (g10_42, k11_43) => upd (upd (upd (upd (upd (j) 0 (.pointer o0_1 : Value)) 8 (.int .i64 ((t72_35.n : Int)) : Value)) 9 (.int .i64 i9_36 : Value)) 10 (.slice g10_42.a g10_42.n g10_42.c : Value)) 11 (.int .i64 k11_43 : Value)) (t86_41, 0) ?_ h ?_
      · dsimp only
        refine upd_id ?_ rfl
        refine upd_id ?_ rfl
        refine upd_id ?_ rfl
        refine upd_id ?_ rfl
        refine upd_id ?_ rfl
        rfl
      rintro KN67 next66 hN67 ⟨g10_42, k11_43⟩ j w_44 h
      unfold F21_l4 at h
      refine y_seq fun K68 hK68 => ?_
      refine y_seq fun K69 hK69 => ?_
      refine y_region ?_
      refine y_k (.int .i64 k11_43 : Value) w_44 rfl rfl rfl (by kernel_rfl) ?_
      refine y_k (.bool (decide (k11_43 < 70)) : Value) w_44 rfl rfl rfl (by kernel_rfl) ?_
      refine y_nil ?_
      refine y_then (hK69 _ _ ?_)
      refine y_cond (decide (k11_43 < 70)) rfl rfl (fun hb94 => ?_) (fun hb94 => ?_)
      · replace h := h.1 (of_decide_eq_true hb94)
        refine y_skip ?_
        refine y_then (hK68 _ _ ?_)
        refine y_seq fun K70 hK70 => ?_
        refine y_block ?_
        refine y_region ?_
        refine y_k (.slice g10_42.a g10_42.n g10_42.c : Value) w_44 rfl rfl rfl (by kernel_rfl) ?_
        refine y_k (.pointer o0_1 : Value) w_44 rfl rfl rfl (by kernel_rfl) ?_
        obtain ⟨a_45, hx72, h⟩ := h
        refine y_k (.pointer (some a_45) : Value) w_44 rfl rfl rfl (run_nilCheck hx72 rfl) ?_
        refine y_k (.pointer (some (a_45.add 1)) : Value) w_44 rfl rfl rfl (by kernel_rfl) ?_
        obtain ⟨t95_46, hx73, h⟩ := h
        refine y_v (s := Instr.loadAt 22 (.pointer (some (a_45.add 1)))) rfl rfl rfl (by kernel_rfl) (rn_load (by kernel_rfl) hx73) ?_
        refine y_k (.int .i64 i9_36 : Value) w_44 rfl rfl rfl (by kernel_rfl) ?_
        obtain ⟨hx74a, hx74b, a_47, hx74, h⟩ := h
        refine y_v (v := (.pointer (some (a_47.add (Int.toNat i9_36))) : Value)) (s := Instr.indexAt 22 (.slice t95_46.a t95_46.n t95_46.c : Value) (.int .i64 i9_36 : Value)) rfl rfl rfl (by kernel_rfl) (run_ixs1 (el := 5) (by kernel_rfl) (by kernel_rfl) hx74 hx74a hx74b) ?_
        obtain ⟨t98_48, hx75, h⟩ := h
        refine y_v (s := Instr.loadAt 5 (.pointer (some (a_47.add (Int.toNat i9_36))))) rfl rfl rfl (by kernel_rfl) (rn_load (by kernel_rfl) hx75) ?_
        refine y_k (.slice (some ⟨w_44.heap.size, 0, none⟩) 1 1 : Value) (w_44.alloc (.cells #[.int .u8 t98_48] 5)) rfl rfl rfl (by kernel_rfl) ?_
        replace h := h _ rfl
        generalize w_44.alloc (.cells #[.int .u8 t98_48] 5) = w_49 at h ⊢
        obtain ⟨t100_50, w_51, hx76, h⟩ := h
        refine y_v (s := Builtin.append_ #[22, 22] 22 #[.slice g10_42.a g10_42.n g10_42.c, .slice (some ⟨w_44.heap.size, 0, none⟩) 1 1]) rfl rfl rfl (by kernel_rfl) hx76 ?_
        refine y_k (.slice t100_50.a t100_50.n t100_50.c : Value) w_51 rfl rfl rfl (by kernel_rfl) ?_
        refine y_nil ?_
        refine e_block_n ?_
        refine y_then (hK70 _ _ ?_)
        refine y_region ?_
        refine y_k (.int .i64 k11_43 : Value) w_51 rfl rfl rfl (by kernel_rfl) ?_
        refine y_k (.int .i64 (IntKind.i64.wrap (k11_43 + 1)) : Value) w_51 rfl rfl rfl (by kernel_rfl) ?_
        refine y_k (.int .i64 (IntKind.i64.wrap (k11_43 + 1)) : Value) w_51 rfl rfl rfl (by kernel_rfl) ?_
        refine y_nil ?_
        refine y_then (hN67 (t100_50, IntKind.i64.wrap (k11_43 + 1)) _ _ h ?_)
        dsimp only
        refine upd_id ?_ rfl
        refine upd_id ?_ rfl
        refine upd_id ?_ rfl
        refine upd_id ?_ rfl
        refine upd_id ?_ rfl
        rfl
      · replace h := h.2 (of_decide_eq_false hb94)
        refine y_exit ?_
        repeat (first | refine e_then_x ?_ | refine e_block_y rfl ?_)
        refine e_block_x ?_
        refine y_then (hK63 _ _ ?_)
        refine y_seq fun K77 hK77 => ?_
        refine y_region ?_
        refine y_k (.pointer o0_1 : Value) w_44 rfl rfl rfl (by kernel_rfl) ?_
        refine y_k (.pointer o0_1 : Value) w_44 rfl rfl rfl (by kernel_rfl) ?_
        obtain ⟨a_52, hx78, h⟩ := h
        refine y_k (.pointer (some a_52) : Value) w_44 rfl rfl rfl (run_nilCheck hx78 rfl) ?_
        refine y_k (.pointer (some a_52) : Value) w_44 rfl rfl rfl (by kernel_rfl) ?_
        obtain ⟨t105_53, hx79, h⟩ := h
        refine y_v (s := Instr.loadAt 26 (.pointer (some a_52))) rfl rfl rfl (by kernel_rfl) (rn_load (by kernel_rfl) hx79) ?_
        refine y_k (.slice g10_42.a g10_42.n g10_42.c : Value) w_44 rfl rfl rfl (by kernel_rfl) ?_
        refine y_k (.slice (some ⟨w_44.heap.size, 0, none⟩) 1 1 : Value) (w_44.alloc (.cells #[.slice g10_42.a g10_42.n g10_42.c] 22)) rfl rfl rfl (by kernel_rfl) ?_
        replace h := h _ rfl
        generalize w_44.alloc (.cells #[.slice g10_42.a g10_42.n g10_42.c] 22) = w_54 at h ⊢
        obtain ⟨t108_55, w_56, hx80, h⟩ := h
        refine y_v (s := Builtin.append_ #[26, 26] 26 #[.slice t105_53.a t105_53.n t105_53.c, .slice (some ⟨w_44.heap.size, 0, none⟩) 1 1]) rfl rfl rfl (by kernel_rfl) hx80 ?_
        obtain ⟨a_57, hx81, h⟩ := h
        refine y_k (.pointer (some a_57) : Value) w_56 rfl rfl rfl (run_nilCheck hx81 rfl) ?_
        refine y_k (.pointer (some a_57) : Value) w_56 rfl rfl rfl (by kernel_rfl) ?_
        obtain ⟨hx82, h⟩ := h
        replace h := h _ rfl
        refine y_u (s := Instr.storeAt 26 (.pointer (some a_57)) (.slice t108_55.a t108_55.n t108_55.c : Value)) rfl rfl (by kernel_rfl) (rn_store1 (by kernel_rfl) rfl hx82) ?_
        generalize w_56.setCell a_57 (.slice t108_55.a t108_55.n t108_55.c : Value) = w_58 at h ⊢
        refine y_nil ?_
        refine y_then (hK77 _ _ ?_)
        obtain ⟨w_59, hwd83⟩ : ∃ wd : World, wd = w_58.drew := ⟨_, rfl⟩
        replace h := h _ hwd83
        refine t_region (wd := w_59) [] (by kernel_rfl) hwd83 SF_nil fun Q83 hE83 hp83 hS => ?_
        clear hwd83
        refine t_kw hp83 hS 0 (.pointer o0_1 : Value) rfl (wanted_none rfl) rfl rfl (by kernel_rfl) (fun _ _ => by kernel_rfl) fun hS => ?_
        refine t_kw hp83 hS 1 (.pointer o0_1 : Value) rfl (wanted_none rfl) rfl rfl (by kernel_rfl) (fun _ _ => by kernel_rfl) fun hS => ?_
        obtain ⟨a_60, hx84, h⟩ := h
        refine t_kw hp83 hS 2 (.pointer (some a_60) : Value) rfl (wanted_none rfl) rfl rfl (by kernel_rfl) (fun _ _ => run_nilCheck hx84 rfl) fun hS => ?_
        refine t_kw hp83 hS 3 (.pointer (some (a_60.add 1)) : Value) rfl (wanted_none rfl) rfl rfl (by kernel_rfl) (fun _ _ => by kernel_rfl) fun hS => ?_
        obtain ⟨t115_61, hx85, h⟩ := h
        refine t_add ⟨4, [13, 16], fun wx => wx.cell? (a_60.add 1) = some (.slice t115_61.a t115_61.n t115_61.c)⟩ ?_
        replace hS := SF_on (x := ⟨4, [13, 16], fun wx => wx.cell? (a_60.add 1) = some (.slice t115_61.a t115_61.n t115_61.c)⟩) hx85 hS
        refine t_v (s := Instr.loadAt 22 (.pointer (some (a_60.add 1)))) hp83 hS 4 (.slice t115_61.a t115_61.n t115_61.c : Value) rfl (wanted_none rfl) rfl rfl (by kernel_rfl) (by kernel_rfl) (fun _ hw => rn_load (by kernel_rfl) (Sw.fact (List.Mem.head _) rfl hw)) fun hS => ?_
        refine t_kw hp83 hS 5 (.pointer o0_1 : Value) rfl (wanted_none rfl) rfl rfl (by kernel_rfl) (fun _ _ => by kernel_rfl) fun hS => ?_
        obtain ⟨a_62, hx86, h⟩ := h
        refine t_kw hp83 hS 6 (.pointer (some a_62) : Value) rfl (wanted_none rfl) rfl rfl (by kernel_rfl) (fun _ _ => run_nilCheck hx86 rfl) fun hS => ?_
        refine t_kw hp83 hS 7 (.pointer (some (a_62.add 1)) : Value) rfl (wanted_none rfl) rfl rfl (by kernel_rfl) (fun _ _ => by kernel_rfl) fun hS => ?_
        obtain ⟨t119_63, hx87, h⟩ := h
        refine t_add ⟨8, [12, 13, 16], fun wx => wx.cell? (a_62.add 1) = some (.slice t119_63.a t119_63.n t119_63.c)⟩ ?_
        replace hS := SF_on (x := ⟨8, [12, 13, 16], fun wx => wx.cell? (a_62.add 1) = some (.slice t119_63.a t119_63.n t119_63.c)⟩) hx87 hS
        refine t_v (s := Instr.loadAt 22 (.pointer (some (a_62.add 1)))) hp83 hS 8 (.slice t119_63.a t119_63.n t119_63.c : Value) rfl (wanted_none rfl) rfl rfl (by kernel_rfl) (by kernel_rfl) (fun _ hw => rn_load (by kernel_rfl) (Sw.fact (List.Mem.head _) rfl hw)) fun hS => ?_
        refine t_kw hp83 hS 9 (.int .i64 i9_36 : Value) rfl (wanted_none rfl) rfl rfl (by kernel_rfl) (fun _ _ => by kernel_rfl) fun hS => ?_
        obtain ⟨hx88a, hx88b, a_64, hx88, h⟩ := h
        refine t_v (s := Instr.indexAt 22 (.slice t119_63.a t119_63.n t119_63.c : Value) (.int .i64 i9_36 : Value)) hp83 hS 10 (.pointer (some (a_64.add (Int.toNat i9_36))) : Value) rfl (wanted_none rfl) rfl rfl (by kernel_rfl) (by kernel_rfl) (fun _ _ => run_ixs1 (el := 5) (by kernel_rfl) (by kernel_rfl) hx88 hx88a hx88b) fun hS => ?_
        obtain ⟨t122_65, hx89, h⟩ := h
        refine t_add ⟨11, [12, 13, 16], fun wx => wx.cell? (a_64.add (Int.toNat i9_36)) = some (.int .u8 t122_65)⟩ ?_
        replace hS := SF_on (x := ⟨11, [12, 13, 16], fun wx => wx.cell? (a_64.add (Int.toNat i9_36)) = some (.int .u8 t122_65)⟩) hx89 hS
        refine t_v (s := Instr.loadAt 5 (.pointer (some (a_64.add (Int.toNat i9_36))))) hp83 hS 11 (.int .u8 t122_65 : Value) rfl (wanted_none rfl) rfl rfl (by kernel_rfl) (by kernel_rfl) (fun _ hw => rn_load (by kernel_rfl) (Sw.fact (List.Mem.head _) rfl hw)) fun hS => ?_
        replace h := h _ rfl
        have hx90 := cell_alloc (ob := (.cells #[.int .u8 t122_65] 5)) hx85
        refine t_kstep 12 (.slice (some ⟨w_59.heap.size, 0, none⟩) 1 1 : Value) (w_59.alloc (.cells #[.int .u8 t122_65] 5)) (by kernel_rfl) rfl (wanted_none rfl) rfl rfl (by kernel_rfl) (SF_off (by kernel_rfl) (by kernel_rfl) (SF_off (by kernel_rfl) (by kernel_rfl) (SF_on hx90 SF_nil))) fun hS => ?_
        generalize w_59.alloc (.cells #[.int .u8 t122_65] 5) = w_66 at hx90 hS h ⊢
        obtain ⟨t124_67, w_68, hx91, h⟩ := h
        refine t_w 13 (s := Builtin.append_ #[22, 22] 22 #[.slice t115_61.a t115_61.n t115_61.c, .slice (some ⟨w_59.heap.size, 0, none⟩) 1 1]) (by kernel_rfl) rfl (wanted_none rfl) rfl rfl (by kernel_rfl) hx91 (SF_off (by kernel_rfl) (by kernel_rfl) (SF_off (by kernel_rfl) (by kernel_rfl) (SF_off (by kernel_rfl) (by kernel_rfl) SF_nil))) fun hS => ?_
        obtain ⟨a_69, hx92, h⟩ := h
        refine t_kw hp83 hS 14 (.pointer (some a_69) : Value) rfl (wanted_none rfl) rfl rfl (by kernel_rfl) (fun _ _ => run_nilCheck hx92 rfl) fun hS => ?_
        refine t_kw hp83 hS 15 (.pointer (some (a_69.add 1)) : Value) rfl (wanted_none rfl) rfl rfl (by kernel_rfl) (fun _ _ => by kernel_rfl) fun hS => ?_
        obtain ⟨hx93, h⟩ := h
        replace h := h _ rfl
        refine t_u 16 (s := Instr.storeAt 22 (.pointer (some (a_69.add 1))) (.slice t124_67.a t124_67.n t124_67.c : Value)) (by kernel_rfl) rfl (wanted_none rfl) rfl (by kernel_rfl) (rn_store1 (by kernel_rfl) rfl hx93) (SF_off (by kernel_rfl) (by kernel_rfl) (SF_off (by kernel_rfl) (by kernel_rfl) (SF_off (by kernel_rfl) (by kernel_rfl) SF_nil))) fun hS => ?_
        generalize w_68.setCell (a_69.add 1) (.slice t124_67.a t124_67.n t124_67.c : Value) = w_70 at hS h ⊢
        refine t_done (by kernel_rfl) (hE83 _ _ ?_)
        refine e_block_n ?_
        refine y_then (hK56 _ _ ?_)
        refine y_region ?_
        refine y_k (.int .i64 i9_36 : Value) w_70 rfl rfl rfl (by kernel_rfl) ?_
        refine y_k (.int .i64 (IntKind.i64.wrap (i9_36 + 1)) : Value) w_70 rfl rfl rfl (by kernel_rfl) ?_
        refine y_k (.int .i64 (IntKind.i64.wrap (i9_36 + 1)) : Value) w_70 rfl rfl rfl (by kernel_rfl) ?_
        refine y_nil ?_
        refine y_then (hN53 (IntKind.i64.wrap (i9_36 + 1)) _ _ h ?_)
        dsimp only
        refine upd_id ?_ rfl
        refine upd_id ?_ rfl
        refine upd_id ?_ rfl
        rfl
    · replace h := h.2 (of_decide_eq_false hb95)
      refine y_exit ?_
      repeat (first | refine e_then_x ?_ | refine e_block_y rfl ?_)
      refine e_block_x ?_
      exact (hQ0 _ _ _ (res0 rfl) ⟨rfl, h⟩).2

def F22_l2 (o0_1 : Option Addr) (K : Bool → World → Prop) (i3_2 : Int) (next5 : (Int) → World → Prop) (next15 : (Int) → World → Prop) : (Int) → World → Prop := fun (k4_6) w_7 =>
  ∃ (a_8 : Addr), o0_1 = some a_8 ∧
  ∃ (t18_9 : Sl), w_7.cell? a_8 = some (.slice t18_9.a t18_9.n t18_9.c) ∧
  (0 : Int) ≤ i3_2 ∧ i3_2 < (t18_9.n : Int) ∧ ∃ (a_10 : Addr), t18_9.a = some a_10 ∧
  ∃ (t21_11 : Sl), w_7.cell? (a_10.add (Int.toNat i3_2)) = some (.slice t21_11.a t21_11.n t21_11.c) ∧
  ((k4_6 < ((t21_11.n : Int)) →
  ∃ (a_12 : Addr), o0_1 = some a_12 ∧
  ∃ (t29_13 : Sl), w_7.cell? a_12 = some (.slice t29_13.a t29_13.n t29_13.c) ∧
  (0 : Int) ≤ i3_2 ∧ i3_2 < (t29_13.n : Int) ∧ ∃ (a_14 : Addr), t29_13.a = some a_14 ∧
  ∃ (t32_15 : Sl), w_7.cell? (a_14.add (Int.toNat i3_2)) = some (.slice t32_15.a t32_15.n t32_15.c) ∧
  (0 : Int) ≤ k4_6 ∧ k4_6 < (t32_15.n : Int) ∧ ∃ (a_16 : Addr), t32_15.a = some a_16 ∧
  ∃ (t35_17 : Int), w_7.cell? (a_16.add (Int.toNat k4_6)) = some (.int .u8 t35_17) ∧
  ∃ (a_18 : Addr), o0_1 = some a_18 ∧
  ∃ (t39_19 : Sl), w_7.cell? (a_18.add 1) = some (.slice t39_19.a t39_19.n t39_19.c) ∧
  (0 : Int) ≤ i3_2 ∧ i3_2 < (t39_19.n : Int) ∧ ∃ (a_20 : Addr), t39_19.a = some a_20 ∧
  ∃ (t42_21 : Int), w_7.cell? (a_20.add (Int.toNat i3_2)) = some (.int .u8 t42_21) ∧
  ∀ (w_22 : World), (∃ m, w_22 = w_7.drewN m) →
  ((¬ t35_17 = t42_21 →
  K false w_22) ∧
  (t35_17 = t42_21 →
  next15 (IntKind.i64.wrap (k4_6 + 1)) w_22))) ∧
  (¬ (k4_6 < ((t21_11.n : Int))) →
  next5 (IntKind.i64.wrap (i3_2 + 1)) w_7))
def F22_l1 (o0_1 : Option Addr) (K : Bool → World → Prop) (next5 : (Int) → World → Prop) : (Int) → World → Prop := fun (i3_2) w_3 =>
  ∃ (a_4 : Addr), o0_1 = some a_4 ∧
  ∃ (t9_5 : Sl), w_3.cell? a_4 = some (.slice t9_5.a t9_5.n t9_5.c) ∧
  ((i3_2 < ((t9_5.n : Int)) →
  kLoop (F22_l2 o0_1 K i3_2 next5) (0) w_3) ∧
  (¬ (i3_2 < ((t9_5.n : Int))) →
  K true w_3))
/-- (*turnkey/turnkeylaw01.owner).looks -/
def F22 (o0_1 : Option Addr) (K : Bool → World → Prop) (w : World) : Prop :=
  kLoop (F22_l1 o0_1 K) (0) w
set_option maxHeartbeats 4000000 in
set_option maxRecDepth 20000 in
theorem F22_sound (o0_1 : Option Addr) (K : Bool → World → Prop) (w : World) (h : F22 o0_1 K w) :
    Calls Try.prog 22 #[.pointer o0_1] w (fun e w1 => ∃ (r0 : Bool), e = .returned (.bool r0 : Value) ∧ K r0 w1) := by
  unfold F22 at h
  refine y_enter (n := 44) (args := [.pointer o0_1]) Try.func22 rfl rfl rfl fun Q0 hQ0 => ?_
  refine y_seq fun K1 hK1 => ?_
  refine y_region ?_
  refine y_k (.bool false : Value) w rfl rfl rfl (by kernel_rfl) ?_
  refine y_nil ?_
  refine y_then (hK1 _ _ ?_)
  refine y_seq fun K2 hK2 => ?_
  refine y_seq fun K3 hK3 => ?_
  refine y_region ?_
  refine y_k (.int .i64 0 : Value) w rfl rfl rfl (by kernel_rfl) ?_
  refine y_nil ?_
  refine y_then (hK3 _ _ ?_)
  refine y_block ?_
  refine y_loop (S := Int) (fun s j => match s with | (i3_2) => upd (upd (j) 0 (.pointer o0_1 : Value)) 3 (.int .i64 i3_2 : Value)) (0) ?_ h ?_
  · dsimp only
    refine upd_id ?_ rfl
    refine upd_id ?_ rfl
    rfl
  rintro KN6 next5 hN6 i3_2 j w_3 h
  unfold F22_l1 at h
  refine y_seq fun K7 hK7 => ?_
  refine y_seq fun K8 hK8 => ?_
  refine y_region ?_
  refine y_k (.int .i64 i3_2 : Value) w_3 rfl rfl rfl (by kernel_rfl) ?_
  refine y_k (.pointer o0_1 : Value) w_3 rfl rfl rfl (by kernel_rfl) ?_
  obtain ⟨a_4, hx9, h⟩ := h
  refine y_k (.pointer (some a_4) : Value) w_3 rfl rfl rfl (run_nilCheck hx9 rfl) ?_
  refine y_k (.pointer (some a_4) : Value) w_3 rfl rfl rfl (by kernel_rfl) ?_
  obtain ⟨t9_5, hx10, h⟩ := h
  refine y_v (s := Instr.loadAt 26 (.pointer (some a_4))) rfl rfl rfl (by kernel_rfl) (rn_load (by kernel_rfl) hx10) ?_
  refine y_k (.int .i64 ((t9_5.n : Int)) : Value) w_3 rfl rfl rfl (by kernel_rfl) ?_
  refine y_k (.bool (decide (i3_2 < ((t9_5.n : Int)))) : Value) w_3 rfl rfl rfl (by kernel_rfl) ?_
  refine y_nil ?_
  refine y_then (hK8 _ _ ?_)
  refine y_cond (decide (i3_2 < ((t9_5.n : Int)))) rfl rfl (fun hb42 => ?_) (fun hb42 => ?_)
  · replace h := h.1 (of_decide_eq_true hb42)
    refine y_skip ?_
    refine y_then (hK7 _ _ ?_)
    refine y_seq fun K11 hK11 => ?_
    refine y_block ?_
    refine y_seq fun K13 hK13 => ?_
    refine y_region ?_
    refine y_k (.int .i64 0 : Value) w_3 rfl rfl rfl (by kernel_rfl) ?_
    refine y_nil ?_
    refine y_then (hK13 _ _ ?_)
    refine y_block ?_
    refine y_loop (S := Int) (fun s j => match s with | (k4_6) => upd (upd (upd (j) 0 (.pointer o0_1 : Value)) 3 (.int .i64 i3_2 : Value)) 4 (.int .i64 k4_6 : Value)) (0) ?_ h ?_
    · dsimp only
      refine upd_id ?_ rfl
      refine upd_id ?_ rfl
      refine upd_id ?_ rfl
      rfl
    rintro KN16 next15 hN16 k4_6 j w_7 h
    unfold F22_l2 at h
    refine y_seq fun K17 hK17 => ?_
    refine y_seq fun K18 hK18 => ?_
    refine y_region ?_
    refine y_k (.int .i64 k4_6 : Value) w_7 rfl rfl rfl (by kernel_rfl) ?_
    refine y_k (.pointer o0_1 : Value) w_7 rfl rfl rfl (by kernel_rfl) ?_
    obtain ⟨a_8, hx19, h⟩ := h
    refine y_k (.pointer (some a_8) : Value) w_7 rfl rfl rfl (run_nilCheck hx19 rfl) ?_
    refine y_k (.pointer (some a_8) : Value) w_7 rfl rfl rfl (by kernel_rfl) ?_
    obtain ⟨t18_9, hx20, h⟩ := h
    refine y_v (s := Instr.loadAt 26 (.pointer (some a_8))) rfl rfl rfl (by kernel_rfl) (rn_load (by kernel_rfl) hx20) ?_
    refine y_k (.int .i64 i3_2 : Value) w_7 rfl rfl rfl (by kernel_rfl) ?_
    obtain ⟨hx21a, hx21b, a_10, hx21, h⟩ := h
    refine y_v (v := (.pointer (some (a_10.add (Int.toNat i3_2))) : Value)) (s := Instr.indexAt 26 (.slice t18_9.a t18_9.n t18_9.c : Value) (.int .i64 i3_2 : Value)) rfl rfl rfl (by kernel_rfl) (run_ixs1 (el := 22) (by kernel_rfl) (by kernel_rfl) hx21 hx21a hx21b) ?_
    obtain ⟨t21_11, hx22, h⟩ := h
    refine y_v (s := Instr.loadAt 22 (.pointer (some (a_10.add (Int.toNat i3_2))))) rfl rfl rfl (by kernel_rfl) (rn_load (by kernel_rfl) hx22) ?_
    refine y_k (.int .i64 ((t21_11.n : Int)) : Value) w_7 rfl rfl rfl (by kernel_rfl) ?_
    refine y_k (.bool (decide (k4_6 < ((t21_11.n : Int)))) : Value) w_7 rfl rfl rfl (by kernel_rfl) ?_
    refine y_nil ?_
    refine y_then (hK18 _ _ ?_)
    refine y_cond (decide (k4_6 < ((t21_11.n : Int)))) rfl rfl (fun hb40 => ?_) (fun hb40 => ?_)
    · replace h := h.1 (of_decide_eq_true hb40)
      refine y_skip ?_
      refine y_then (hK17 _ _ ?_)
      refine y_seq fun K23 hK23 => ?_
      refine y_block ?_
      refine y_seq fun K25 hK25 => ?_
      refine q_region (by kernel_rfl) (by kernel_rfl) fun Qq26 hQq26 => ?_
      refine q_k (.pointer o0_1 : Value) rfl rfl rfl (fun _ => by kernel_rfl) ?_
      obtain ⟨a_12, hx27, h⟩ := h
      refine q_k (.pointer (some a_12) : Value) rfl rfl rfl (fun _ => run_nilCheck hx27 rfl) ?_
      refine q_k (.pointer (some a_12) : Value) rfl rfl rfl (fun _ => by kernel_rfl) ?_
      obtain ⟨t29_13, hx28, h⟩ := h
      refine q_v (v := (.slice t29_13.a t29_13.n t29_13.c : Value)) (s := Instr.loadAt 26 (.pointer (some a_12))) rfl rfl rfl (by kernel_rfl) (fun _ => rn_load (by kernel_rfl) hx28) ?_
      refine q_k (.int .i64 i3_2 : Value) rfl rfl rfl (fun _ => by kernel_rfl) ?_
      obtain ⟨hx29a, hx29b, a_14, hx29, h⟩ := h
      refine q_v (v := (.pointer (some (a_14.add (Int.toNat i3_2))) : Value)) (s := Instr.indexAt 26 (.slice t29_13.a t29_13.n t29_13.c : Value) (.int .i64 i3_2 : Value)) rfl rfl rfl (by kernel_rfl) (fun _ => run_ixs1 (el := 22) (by kernel_rfl) (by kernel_rfl) hx29 hx29a hx29b) ?_
      obtain ⟨t32_15, hx30, h⟩ := h
      refine q_v (v := (.slice t32_15.a t32_15.n t32_15.c : Value)) (s := Instr.loadAt 22 (.pointer (some (a_14.add (Int.toNat i3_2))))) rfl rfl rfl (by kernel_rfl) (fun _ => rn_load (by kernel_rfl) hx30) ?_
      refine q_k (.int .i64 k4_6 : Value) rfl rfl rfl (fun _ => by kernel_rfl) ?_
      obtain ⟨hx31a, hx31b, a_16, hx31, h⟩ := h
      refine q_v (v := (.pointer (some (a_16.add (Int.toNat k4_6))) : Value)) (s := Instr.indexAt 22 (.slice t32_15.a t32_15.n t32_15.c : Value) (.int .i64 k4_6 : Value)) rfl rfl rfl (by kernel_rfl) (fun _ => run_ixs1 (el := 5) (by kernel_rfl) (by kernel_rfl) hx31 hx31a hx31b) ?_
      obtain ⟨t35_17, hx32, h⟩ := h
      refine q_v (v := (.int .u8 t35_17 : Value)) (s := Instr.loadAt 5 (.pointer (some (a_16.add (Int.toNat k4_6))))) rfl rfl rfl (by kernel_rfl) (fun _ => rn_load (by kernel_rfl) hx32) ?_
      refine q_k (.pointer o0_1 : Value) rfl rfl rfl (fun _ => by kernel_rfl) ?_
      obtain ⟨a_18, hx33, h⟩ := h
      refine q_k (.pointer (some a_18) : Value) rfl rfl rfl (fun _ => run_nilCheck hx33 rfl) ?_
      refine q_k (.pointer (some (a_18.add 1)) : Value) rfl rfl rfl (fun _ => by kernel_rfl) ?_
      obtain ⟨t39_19, hx34, h⟩ := h
      refine q_v (v := (.slice t39_19.a t39_19.n t39_19.c : Value)) (s := Instr.loadAt 22 (.pointer (some (a_18.add 1)))) rfl rfl rfl (by kernel_rfl) (fun _ => rn_load (by kernel_rfl) hx34) ?_
      refine q_k (.int .i64 i3_2 : Value) rfl rfl rfl (fun _ => by kernel_rfl) ?_
      obtain ⟨hx35a, hx35b, a_20, hx35, h⟩ := h
      refine q_v (v := (.pointer (some (a_20.add (Int.toNat i3_2))) : Value)) (s := Instr.indexAt 22 (.slice t39_19.a t39_19.n t39_19.c : Value) (.int .i64 i3_2 : Value)) rfl rfl rfl (by kernel_rfl) (fun _ => run_ixs1 (el := 5) (by kernel_rfl) (by kernel_rfl) hx35 hx35a hx35b) ?_
      obtain ⟨t42_21, hx36, h⟩ := h
      refine q_v (v := (.int .u8 t42_21 : Value)) (s := Instr.loadAt 5 (.pointer (some (a_20.add (Int.toNat i3_2))))) rfl rfl rfl (by kernel_rfl) (fun _ => rn_load (by kernel_rfl) hx36) ?_
      refine q_k (.bool ((t35_17 != t42_21)) : Value) rfl rfl rfl (fun _ => by kernel_rfl) ?_
      refine q_nil (hQq26 _ fun m39 => ?_)
      replace h := h _ ⟨m39, rfl⟩
      generalize w_7.drewN m39 = w_22 at h ⊢
      refine y_then (hK25 _ _ ?_)
      refine y_cond ((t35_17 != t42_21)) rfl rfl (fun hb38 => ?_) (fun hb38 => ?_)
      · replace h := h.1 (bne_iff_ne.mp hb38)
        refine y_seq fun K37 hK37 => ?_
        refine y_region ?_
        refine y_k (.bool false : Value) w_22 rfl rfl rfl (by kernel_rfl) ?_
        refine y_nil ?_
        refine y_then (hK37 _ _ ?_)
        refine y_ret ?_
        repeat (first | refine e_then_r ?_ | refine e_block_r ?_)
        exact (hQ0 _ _ _ (res1 (v := (.bool false : Value)) rfl rfl rfl) ⟨_, rfl, h⟩).1
      · replace h := h.2 (bne_eq_false_iff_eq.mp hb38)
        refine y_skip ?_
        refine e_block_n ?_
        refine y_then (hK23 _ _ ?_)
        refine y_region ?_
        refine y_k (.int .i64 k4_6 : Value) w_22 rfl rfl rfl (by kernel_rfl) ?_
        refine y_k (.int .i64 (IntKind.i64.wrap (k4_6 + 1)) : Value) w_22 rfl rfl rfl (by kernel_rfl) ?_
        refine y_k (.int .i64 (IntKind.i64.wrap (k4_6 + 1)) : Value) w_22 rfl rfl rfl (by kernel_rfl) ?_
        refine y_nil ?_
        refine y_then (hN16 (IntKind.i64.wrap (k4_6 + 1)) _ _ h ?_)
        dsimp only
        refine upd_id ?_ rfl
        refine upd_id ?_ rfl
        refine upd_id ?_ rfl
        rfl
    · replace h := h.2 (of_decide_eq_false hb40)
      refine y_exit ?_
      repeat (first | refine e_then_x ?_ | refine e_block_y rfl ?_)
      refine e_block_x ?_
      refine e_block_n ?_
      refine y_then (hK11 _ _ ?_)
      refine y_region ?_
      refine y_k (.int .i64 i3_2 : Value) w_7 rfl rfl rfl (by kernel_rfl) ?_
      refine y_k (.int .i64 (IntKind.i64.wrap (i3_2 + 1)) : Value) w_7 rfl rfl rfl (by kernel_rfl) ?_
      refine y_k (.int .i64 (IntKind.i64.wrap (i3_2 + 1)) : Value) w_7 rfl rfl rfl (by kernel_rfl) ?_
      refine y_nil ?_
      refine y_then (hN6 (IntKind.i64.wrap (i3_2 + 1)) _ _ h ?_)
      dsimp only
      refine upd_id ?_ rfl
      refine upd_id ?_ rfl
      rfl
  · replace h := h.2 (of_decide_eq_false hb42)
    refine y_exit ?_
    repeat (first | refine e_then_x ?_ | refine e_block_y rfl ?_)
    refine e_block_x ?_
    refine y_then (hK2 _ _ ?_)
    refine y_seq fun K41 hK41 => ?_
    refine y_region ?_
    refine y_k (.bool true : Value) w_3 rfl rfl rfl (by kernel_rfl) ?_
    refine y_nil ?_
    refine y_then (hK41 _ _ ?_)
    refine y_ret ?_
    repeat (first | refine e_then_r ?_ | refine e_block_r ?_)
    exact (hQ0 _ _ _ (res1 (v := (.bool true : Value)) rfl rfl rfl) ⟨_, rfl, h⟩).1

def F23_j1 (K : Sl → Bool → World → Prop) (t4_23 : Sl) (t5_24 : Bool) (w_25 : World) : Prop :=
  K t4_23 t5_24 w_25
/-- turnkey/turnkeylaw01.gets -/
def F23 (b0_1 : Sl) (most1_2 : Int) (K : Sl → Bool → World → Prop) (w : World) : Prop :=
  Calls Try.prog 24 #[.slice b0_1.a b0_1.n b0_1.c] w fun e w_5 => ∃ (t20_3 : Int), ∃ (t20_4 : Int), e = .returned (.tuple #[.int .u64 t20_3, .int .i64 t20_4] : Value) ∧
  Calls Try.prog 54 #[.slice b0_1.a b0_1.n b0_1.c] w_5 fun e w_8 => ∃ (t25_6 : Int), ∃ (t25_7 : Int), e = .returned (.tuple #[.int .u64 t25_6, .int .i64 t25_7] : Value) ∧
  Calls Try.prog 25 #[.slice b0_1.a b0_1.n b0_1.c] w_8 fun e w_11 => ∃ (t30_9 : Int), ∃ (t30_10 : Int), e = .returned (.tuple #[.int .i64 t30_9, .int .i64 t30_10] : Value) ∧
  Calls Try.prog 55 #[.slice b0_1.a b0_1.n b0_1.c] w_11 fun e w_14 => ∃ (t35_12 : Int), ∃ (t35_13 : Int), e = .returned (.tuple #[.int .i64 t35_12, .int .i64 t35_13] : Value) ∧
  Calls Try.prog 26 #[.slice b0_1.a b0_1.n b0_1.c, .int .i64 most1_2] w_14 fun e w_17 => ∃ (t41_15 : Sl), ∃ (t41_16 : Int), e = .returned (.tuple #[.slice t41_15.a t41_15.n t41_15.c, .int .i64 t41_16] : Value) ∧
  Calls Try.prog 56 #[.slice b0_1.a b0_1.n b0_1.c, .int .i64 most1_2] w_17 fun e w_20 => ∃ (t47_18 : Sl), ∃ (t47_19 : Int), e = .returned (.tuple #[.slice t47_18.a t47_18.n t47_18.c, .int .i64 t47_19] : Value) ∧
  ((t20_3 = t25_6 →
  ((t20_4 = t25_7 →
  ((t30_9 = t35_12 →
  ((t30_10 = t35_13 →
  ∃ (t71_21 : ByteArray), (convert 22 9 (.slice t41_15.a t41_15.n t41_15.c : Value)).run Try.prog w_20 = .ok (.string t71_21 : Value) w_20 ∧
  ∃ (t73_22 : ByteArray), (convert 22 9 (.slice t47_18.a t47_18.n t47_18.c : Value)).run Try.prog w_20 = .ok (.string t73_22 : Value) w_20 ∧
  ((t71_21.toList = t73_22.toList →
  F23_j1 K t41_15 ((t41_16 == t47_19)) w_20) ∧
  (¬ t71_21.toList = t73_22.toList →
  F23_j1 K t41_15 false w_20))) ∧
  (¬ t30_10 = t35_13 →
  F23_j1 K t41_15 false w_20))) ∧
  (¬ t30_9 = t35_12 →
  F23_j1 K t41_15 false w_20))) ∧
  (¬ t20_4 = t25_7 →
  F23_j1 K t41_15 false w_20))) ∧
  (¬ t20_3 = t25_6 →
  F23_j1 K t41_15 false w_20))
set_option maxHeartbeats 4000000 in
set_option maxRecDepth 20000 in
theorem F23_sound (b0_1 : Sl) (most1_2 : Int) (K : Sl → Bool → World → Prop) (w : World) (h : F23 b0_1 most1_2 K w) :
    Calls Try.prog 23 #[.slice b0_1.a b0_1.n b0_1.c, .int .i64 most1_2] w (fun e w1 => ∃ (r0 : Sl), ∃ (r1 : Bool), e = .returned (.tuple #[.slice r0.a r0.n r0.c, .bool r1]) ∧ K r0 r1 w1) := by
  unfold F23 at h
  refine y_enter (n := 81) (args := [.slice b0_1.a b0_1.n b0_1.c, .int .i64 most1_2]) Try.func23 rfl rfl rfl fun Q0 hQ0 => ?_
  refine y_seq fun K1 hK1 => ?_
  refine y_region ?_
  refine y_k (.slice none 0 0 : Value) w rfl rfl rfl (by kernel_rfl) ?_
  refine y_k (.bool false : Value) w rfl rfl rfl (by kernel_rfl) ?_
  refine y_nil ?_
  refine y_then (hK1 _ _ ?_)
  refine y_seq fun K2 hK2 => ?_
  refine y_region ?_
  refine y_k (.slice b0_1.a b0_1.n b0_1.c : Value) w rfl rfl rfl (by kernel_rfl) ?_
  refine y_call rfl rfl rfl (by kernel_rfl) (h.mono ?_)
  rintro _ w_5 ⟨t20_3, t20_4, rfl, h⟩
  refine ⟨_, rfl, ?_⟩
  refine y_k (.tuple #[.int .u64 t20_3, .int .i64 t20_4] : Value) w_5 rfl rfl rfl (by kernel_rfl) ?_
  refine y_k (.int .u64 t20_3 : Value) w_5 rfl rfl rfl (by kernel_rfl) ?_
  refine y_k (.int .i64 t20_4 : Value) w_5 rfl rfl rfl (by kernel_rfl) ?_
  refine y_k (.int .u64 t20_3 : Value) w_5 rfl rfl rfl (by kernel_rfl) ?_
  refine y_k (.int .i64 t20_4 : Value) w_5 rfl rfl rfl (by kernel_rfl) ?_
  refine y_nil ?_
  refine y_then (hK2 _ _ ?_)
  refine y_seq fun K3 hK3 => ?_
  refine y_region ?_
  refine y_k (.slice b0_1.a b0_1.n b0_1.c : Value) w_5 rfl rfl rfl (by kernel_rfl) ?_
  refine y_call rfl rfl rfl (by kernel_rfl) (h.mono ?_)
  rintro _ w_8 ⟨t25_6, t25_7, rfl, h⟩
  refine ⟨_, rfl, ?_⟩
  refine y_k (.tuple #[.int .u64 t25_6, .int .i64 t25_7] : Value) w_8 rfl rfl rfl (by kernel_rfl) ?_
  refine y_k (.int .u64 t25_6 : Value) w_8 rfl rfl rfl (by kernel_rfl) ?_
  refine y_k (.int .i64 t25_7 : Value) w_8 rfl rfl rfl (by kernel_rfl) ?_
  refine y_k (.int .u64 t25_6 : Value) w_8 rfl rfl rfl (by kernel_rfl) ?_
  refine y_k (.int .i64 t25_7 : Value) w_8 rfl rfl rfl (by kernel_rfl) ?_
  refine y_nil ?_
  refine y_then (hK3 _ _ ?_)
  refine y_seq fun K4 hK4 => ?_
  refine y_region ?_
  refine y_k (.slice b0_1.a b0_1.n b0_1.c : Value) w_8 rfl rfl rfl (by kernel_rfl) ?_
  refine y_call rfl rfl rfl (by kernel_rfl) (h.mono ?_)
  rintro _ w_11 ⟨t30_9, t30_10, rfl, h⟩
  refine ⟨_, rfl, ?_⟩
  refine y_k (.tuple #[.int .i64 t30_9, .int .i64 t30_10] : Value) w_11 rfl rfl rfl (by kernel_rfl) ?_
  refine y_k (.int .i64 t30_9 : Value) w_11 rfl rfl rfl (by kernel_rfl) ?_
  refine y_k (.int .i64 t30_10 : Value) w_11 rfl rfl rfl (by kernel_rfl) ?_
  refine y_k (.int .i64 t30_9 : Value) w_11 rfl rfl rfl (by kernel_rfl) ?_
  refine y_k (.int .i64 t30_10 : Value) w_11 rfl rfl rfl (by kernel_rfl) ?_
  refine y_nil ?_
  refine y_then (hK4 _ _ ?_)
  refine y_seq fun K5 hK5 => ?_
  refine y_region ?_
  refine y_k (.slice b0_1.a b0_1.n b0_1.c : Value) w_11 rfl rfl rfl (by kernel_rfl) ?_
  refine y_call rfl rfl rfl (by kernel_rfl) (h.mono ?_)
  rintro _ w_14 ⟨t35_12, t35_13, rfl, h⟩
  refine ⟨_, rfl, ?_⟩
  refine y_k (.tuple #[.int .i64 t35_12, .int .i64 t35_13] : Value) w_14 rfl rfl rfl (by kernel_rfl) ?_
  refine y_k (.int .i64 t35_12 : Value) w_14 rfl rfl rfl (by kernel_rfl) ?_
  refine y_k (.int .i64 t35_13 : Value) w_14 rfl rfl rfl (by kernel_rfl) ?_
  refine y_k (.int .i64 t35_12 : Value) w_14 rfl rfl rfl (by kernel_rfl) ?_
  refine y_k (.int .i64 t35_13 : Value) w_14 rfl rfl rfl (by kernel_rfl) ?_
  refine y_nil ?_
  refine y_then (hK5 _ _ ?_)
  refine y_seq fun K6 hK6 => ?_
  refine y_region ?_
  refine y_k (.slice b0_1.a b0_1.n b0_1.c : Value) w_14 rfl rfl rfl (by kernel_rfl) ?_
  refine y_k (.int .i64 most1_2 : Value) w_14 rfl rfl rfl (by kernel_rfl) ?_
  refine y_call rfl rfl rfl (by kernel_rfl) (h.mono ?_)
  rintro _ w_17 ⟨t41_15, t41_16, rfl, h⟩
  refine ⟨_, rfl, ?_⟩
  refine y_k (.tuple #[.slice t41_15.a t41_15.n t41_15.c, .int .i64 t41_16] : Value) w_17 rfl rfl rfl (by kernel_rfl) ?_
  refine y_k (.slice t41_15.a t41_15.n t41_15.c : Value) w_17 rfl rfl rfl (by kernel_rfl) ?_
  refine y_k (.int .i64 t41_16 : Value) w_17 rfl rfl rfl (by kernel_rfl) ?_
  refine y_k (.slice t41_15.a t41_15.n t41_15.c : Value) w_17 rfl rfl rfl (by kernel_rfl) ?_
  refine y_k (.int .i64 t41_16 : Value) w_17 rfl rfl rfl (by kernel_rfl) ?_
  refine y_nil ?_
  refine y_then (hK6 _ _ ?_)
  refine y_seq fun K7 hK7 => ?_
  refine y_region ?_
  refine y_k (.slice b0_1.a b0_1.n b0_1.c : Value) w_17 rfl rfl rfl (by kernel_rfl) ?_
  refine y_k (.int .i64 most1_2 : Value) w_17 rfl rfl rfl (by kernel_rfl) ?_
  refine y_call rfl rfl rfl (by kernel_rfl) (h.mono ?_)
  rintro _ w_20 ⟨t47_18, t47_19, rfl, h⟩
  refine ⟨_, rfl, ?_⟩
  refine y_k (.tuple #[.slice t47_18.a t47_18.n t47_18.c, .int .i64 t47_19] : Value) w_20 rfl rfl rfl (by kernel_rfl) ?_
  refine y_k (.slice t47_18.a t47_18.n t47_18.c : Value) w_20 rfl rfl rfl (by kernel_rfl) ?_
  refine y_k (.int .i64 t47_19 : Value) w_20 rfl rfl rfl (by kernel_rfl) ?_
  refine y_k (.slice t47_18.a t47_18.n t47_18.c : Value) w_20 rfl rfl rfl (by kernel_rfl) ?_
  refine y_k (.int .i64 t47_19 : Value) w_20 rfl rfl rfl (by kernel_rfl) ?_
  refine y_nil ?_
  refine y_then (hK7 _ _ ?_)
  refine y_seq fun K8 hK8 => ?_
  have hjK8 : ∀ (f : Fr) (t4_23 : Sl) (t5_24 : Bool) (w_25 : World), f 4 = (.slice t4_23.a t4_23.n t4_23.c : Value) → f 5 = (.bool t5_24 : Value) → F23_j1 K t4_23 t5_24 w_25 → WK K8 81 f w_25 := by
    intro f t4_23 t5_24 w_25 e4 e5 h
    refine y_atf (upd_id (upd_id rfl e4) e5) ?_
    clear e4 e5
    unfold F23_j1 at h
    refine hK8 _ _ ?_
    refine y_ret ?_
    repeat (first | refine e_then_r ?_ | refine e_block_r ?_)
    exact (hQ0 _ _ _ (res2 (v1 := (.slice t4_23.a t4_23.n t4_23.c : Value)) (v2 := (.bool t5_24 : Value)) rfl rfl rfl rfl) ⟨_, _, rfl, h⟩).1
  refine y_region ?_
  refine y_k (.slice t41_15.a t41_15.n t41_15.c : Value) w_20 rfl rfl rfl (by kernel_rfl) ?_
  refine y_k (.int .u64 t20_3 : Value) w_20 rfl rfl rfl (by kernel_rfl) ?_
  refine y_k (.int .u64 t25_6 : Value) w_20 rfl rfl rfl (by kernel_rfl) ?_
  refine y_k (.bool ((t20_3 == t25_6)) : Value) w_20 rfl rfl rfl (by kernel_rfl) ?_
  refine y_k (.bool ((t20_3 == t25_6)) : Value) w_20 rfl rfl rfl (by kernel_rfl) ?_
  refine y_fork ((t20_3 == t25_6)) (fun hb9 => ?_) (fun hb9 => ?_)
  · replace h := h.1 (eq_of_beq hb9)
    refine y_frame (upd_id (i := 54) (v := .bool true) rfl (congrArg Value.bool hb9)) ?_
    refine y_gyes rfl rfl rfl ?_
    refine y_k (.int .i64 t20_4 : Value) w_20 rfl rfl rfl (by kernel_rfl) ?_
    refine y_gyes rfl rfl rfl ?_
    refine y_k (.int .i64 t25_7 : Value) w_20 rfl rfl rfl (by kernel_rfl) ?_
    refine y_gyes rfl rfl rfl ?_
    refine y_k (.bool ((t20_4 == t25_7)) : Value) w_20 rfl rfl rfl (by kernel_rfl) ?_
    refine y_k (.bool ((t20_4 == t25_7)) : Value) w_20 rfl rfl rfl (by kernel_rfl) ?_
    refine y_k (.bool ((t20_4 == t25_7)) : Value) w_20 rfl rfl rfl (by kernel_rfl) ?_
    refine y_fork ((t20_4 == t25_7)) (fun hb10 => ?_) (fun hb10 => ?_)
    · replace h := h.1 (eq_of_beq hb10)
      refine y_frame (upd_id (i := 59) (v := .bool true) rfl (congrArg Value.bool hb10)) ?_
      refine y_gyes rfl rfl rfl ?_
      refine y_k (.int .i64 t30_9 : Value) w_20 rfl rfl rfl (by kernel_rfl) ?_
      refine y_gyes rfl rfl rfl ?_
      refine y_k (.int .i64 t35_12 : Value) w_20 rfl rfl rfl (by kernel_rfl) ?_
      refine y_gyes rfl rfl rfl ?_
      refine y_k (.bool ((t30_9 == t35_12)) : Value) w_20 rfl rfl rfl (by kernel_rfl) ?_
      refine y_k (.bool ((t30_9 == t35_12)) : Value) w_20 rfl rfl rfl (by kernel_rfl) ?_
      refine y_k (.bool ((t30_9 == t35_12)) : Value) w_20 rfl rfl rfl (by kernel_rfl) ?_
      refine y_fork ((t30_9 == t35_12)) (fun hb11 => ?_) (fun hb11 => ?_)
      · replace h := h.1 (eq_of_beq hb11)
        refine y_frame (upd_id (i := 64) (v := .bool true) rfl (congrArg Value.bool hb11)) ?_
        refine y_gyes rfl rfl rfl ?_
        refine y_k (.int .i64 t30_10 : Value) w_20 rfl rfl rfl (by kernel_rfl) ?_
        refine y_gyes rfl rfl rfl ?_
        refine y_k (.int .i64 t35_13 : Value) w_20 rfl rfl rfl (by kernel_rfl) ?_
        refine y_gyes rfl rfl rfl ?_
        refine y_k (.bool ((t30_10 == t35_13)) : Value) w_20 rfl rfl rfl (by kernel_rfl) ?_
        refine y_k (.bool ((t30_10 == t35_13)) : Value) w_20 rfl rfl rfl (by kernel_rfl) ?_
        refine y_k (.bool ((t30_10 == t35_13)) : Value) w_20 rfl rfl rfl (by kernel_rfl) ?_
        refine y_fork ((t30_10 == t35_13)) (fun hb12 => ?_) (fun hb12 => ?_)
        · replace h := h.1 (eq_of_beq hb12)
          refine y_frame (upd_id (i := 69) (v := .bool true) rfl (congrArg Value.bool hb12)) ?_
          refine y_gyes rfl rfl rfl ?_
          refine y_k (.slice t41_15.a t41_15.n t41_15.c : Value) w_20 rfl rfl rfl (by kernel_rfl) ?_
          refine y_gyes rfl rfl rfl ?_
          obtain ⟨t71_21, hx13, h⟩ := h
          refine y_v (s := convert 22 9 (.slice t41_15.a t41_15.n t41_15.c : Value)) rfl rfl rfl (by kernel_rfl) (hx13) ?_
          refine y_gyes rfl rfl rfl ?_
          refine y_k (.slice t47_18.a t47_18.n t47_18.c : Value) w_20 rfl rfl rfl (by kernel_rfl) ?_
          refine y_gyes rfl rfl rfl ?_
          obtain ⟨t73_22, hx14, h⟩ := h
          refine y_v (s := convert 22 9 (.slice t47_18.a t47_18.n t47_18.c : Value)) rfl rfl rfl (by kernel_rfl) (hx14) ?_
          refine y_gyes rfl rfl rfl ?_
          refine y_k (.bool ((t71_21.toList == t73_22.toList)) : Value) w_20 rfl rfl rfl (by kernel_rfl) ?_
          refine y_k (.bool ((t71_21.toList == t73_22.toList)) : Value) w_20 rfl rfl rfl (by kernel_rfl) ?_
          refine y_k (.bool ((t71_21.toList == t73_22.toList)) : Value) w_20 rfl rfl rfl (by kernel_rfl) ?_
          refine y_fork ((t71_21.toList == t73_22.toList)) (fun hb15 => ?_) (fun hb15 => ?_)
          · replace h := h.1 (eq_of_beq hb15)
            refine y_frame (upd_id (i := 76) (v := .bool true) rfl (congrArg Value.bool hb15)) ?_
            refine y_gyes rfl rfl rfl ?_
            refine y_k (.int .i64 t41_16 : Value) w_20 rfl rfl rfl (by kernel_rfl) ?_
            refine y_gyes rfl rfl rfl ?_
            refine y_k (.int .i64 t47_19 : Value) w_20 rfl rfl rfl (by kernel_rfl) ?_
            refine y_gyes rfl rfl rfl ?_
            refine y_k (.bool ((t41_16 == t47_19)) : Value) w_20 rfl rfl rfl (by kernel_rfl) ?_
            refine y_k (.bool ((t41_16 == t47_19)) : Value) w_20 rfl rfl rfl (by kernel_rfl) ?_
            refine y_k (.slice t41_15.a t41_15.n t41_15.c : Value) w_20 rfl rfl rfl (by kernel_rfl) ?_
            refine y_k (.bool ((t41_16 == t47_19)) : Value) w_20 rfl rfl rfl (by kernel_rfl) ?_
            refine y_nil ?_
            exact y_then (hjK8 _ t41_15 ((t41_16 == t47_19)) w_20 rfl rfl h)
          · replace h := h.2 (beq_eq_false_iff_ne.mp hb15)
            refine y_frame (upd_id (i := 76) (v := .bool false) rfl (congrArg Value.bool hb15)) ?_
            refine y_gno rfl rfl rfl rfl ?_
            refine y_gno rfl rfl rfl rfl ?_
            refine y_gno rfl rfl rfl rfl ?_
            refine y_k (.bool false : Value) w_20 rfl rfl rfl (by kernel_rfl) ?_
            refine y_k (.slice t41_15.a t41_15.n t41_15.c : Value) w_20 rfl rfl rfl (by kernel_rfl) ?_
            refine y_k (.bool false : Value) w_20 rfl rfl rfl (by kernel_rfl) ?_
            refine y_nil ?_
            exact y_then (hjK8 _ t41_15 false w_20 rfl rfl h)
        · replace h := h.2 (beq_eq_false_iff_ne.mp hb12)
          refine y_frame (upd_id (i := 69) (v := .bool false) rfl (congrArg Value.bool hb12)) ?_
          refine y_gno rfl rfl rfl rfl ?_
          refine y_gno rfl rfl rfl rfl ?_
          refine y_gno rfl rfl rfl rfl ?_
          refine y_gno rfl rfl rfl rfl ?_
          refine y_gno rfl rfl rfl rfl ?_
          refine y_k (.bool false : Value) w_20 rfl rfl rfl (by kernel_rfl) ?_
          refine y_k (.bool false : Value) w_20 rfl rfl rfl (by kernel_rfl) ?_
          refine y_gno rfl rfl rfl rfl ?_
          refine y_gno rfl rfl rfl rfl ?_
          refine y_gno rfl rfl rfl rfl ?_
          refine y_k (.bool false : Value) w_20 rfl rfl rfl (by kernel_rfl) ?_
          refine y_k (.slice t41_15.a t41_15.n t41_15.c : Value) w_20 rfl rfl rfl (by kernel_rfl) ?_
          refine y_k (.bool false : Value) w_20 rfl rfl rfl (by kernel_rfl) ?_
          refine y_nil ?_
          exact y_then (hjK8 _ t41_15 false w_20 rfl rfl h)
      · replace h := h.2 (beq_eq_false_iff_ne.mp hb11)
        refine y_frame (upd_id (i := 64) (v := .bool false) rfl (congrArg Value.bool hb11)) ?_
        refine y_gno rfl rfl rfl rfl ?_
        refine y_gno rfl rfl rfl rfl ?_
        refine y_gno rfl rfl rfl rfl ?_
        refine y_k (.bool false : Value) w_20 rfl rfl rfl (by kernel_rfl) ?_
        refine y_k (.bool false : Value) w_20 rfl rfl rfl (by kernel_rfl) ?_
        refine y_gno rfl rfl rfl rfl ?_
        refine y_gno rfl rfl rfl rfl ?_
        refine y_gno rfl rfl rfl rfl ?_
        refine y_gno rfl rfl rfl rfl ?_
        refine y_gno rfl rfl rfl rfl ?_
        refine y_k (.bool false : Value) w_20 rfl rfl rfl (by kernel_rfl) ?_
        refine y_k (.bool false : Value) w_20 rfl rfl rfl (by kernel_rfl) ?_
        refine y_gno rfl rfl rfl rfl ?_
        refine y_gno rfl rfl rfl rfl ?_
        refine y_gno rfl rfl rfl rfl ?_
        refine y_k (.bool false : Value) w_20 rfl rfl rfl (by kernel_rfl) ?_
        refine y_k (.slice t41_15.a t41_15.n t41_15.c : Value) w_20 rfl rfl rfl (by kernel_rfl) ?_
        refine y_k (.bool false : Value) w_20 rfl rfl rfl (by kernel_rfl) ?_
        refine y_nil ?_
        exact y_then (hjK8 _ t41_15 false w_20 rfl rfl h)
    · replace h := h.2 (beq_eq_false_iff_ne.mp hb10)
      refine y_frame (upd_id (i := 59) (v := .bool false) rfl (congrArg Value.bool hb10)) ?_
      refine y_gno rfl rfl rfl rfl ?_
      refine y_gno rfl rfl rfl rfl ?_
      refine y_gno rfl rfl rfl rfl ?_
      refine y_k (.bool false : Value) w_20 rfl rfl rfl (by kernel_rfl) ?_
      refine y_k (.bool false : Value) w_20 rfl rfl rfl (by kernel_rfl) ?_
      refine y_gno rfl rfl rfl rfl ?_
      refine y_gno rfl rfl rfl rfl ?_
      refine y_gno rfl rfl rfl rfl ?_
      refine y_k (.bool false : Value) w_20 rfl rfl rfl (by kernel_rfl) ?_
      refine y_k (.bool false : Value) w_20 rfl rfl rfl (by kernel_rfl) ?_
      refine y_gno rfl rfl rfl rfl ?_
      refine y_gno rfl rfl rfl rfl ?_
      refine y_gno rfl rfl rfl rfl ?_
      refine y_gno rfl rfl rfl rfl ?_
      refine y_gno rfl rfl rfl rfl ?_
      refine y_k (.bool false : Value) w_20 rfl rfl rfl (by kernel_rfl) ?_
      refine y_k (.bool false : Value) w_20 rfl rfl rfl (by kernel_rfl) ?_
      refine y_gno rfl rfl rfl rfl ?_
      refine y_gno rfl rfl rfl rfl ?_
      refine y_gno rfl rfl rfl rfl ?_
      refine y_k (.bool false : Value) w_20 rfl rfl rfl (by kernel_rfl) ?_
      refine y_k (.slice t41_15.a t41_15.n t41_15.c : Value) w_20 rfl rfl rfl (by kernel_rfl) ?_
      refine y_k (.bool false : Value) w_20 rfl rfl rfl (by kernel_rfl) ?_
      refine y_nil ?_
      exact y_then (hjK8 _ t41_15 false w_20 rfl rfl h)
  · replace h := h.2 (beq_eq_false_iff_ne.mp hb9)
    refine y_frame (upd_id (i := 54) (v := .bool false) rfl (congrArg Value.bool hb9)) ?_
    refine y_gno rfl rfl rfl rfl ?_
    refine y_gno rfl rfl rfl rfl ?_
    refine y_gno rfl rfl rfl rfl ?_
    refine y_k (.bool false : Value) w_20 rfl rfl rfl (by kernel_rfl) ?_
    refine y_k (.bool false : Value) w_20 rfl rfl rfl (by kernel_rfl) ?_
    refine y_gno rfl rfl rfl rfl ?_
    refine y_gno rfl rfl rfl rfl ?_
    refine y_gno rfl rfl rfl rfl ?_
    refine y_k (.bool false : Value) w_20 rfl rfl rfl (by kernel_rfl) ?_
    refine y_k (.bool false : Value) w_20 rfl rfl rfl (by kernel_rfl) ?_
    refine y_gno rfl rfl rfl rfl ?_
    refine y_gno rfl rfl rfl rfl ?_
    refine y_gno rfl rfl rfl rfl ?_
    refine y_k (.bool false : Value) w_20 rfl rfl rfl (by kernel_rfl) ?_
    refine y_k (.bool false : Value) w_20 rfl rfl rfl (by kernel_rfl) ?_
    refine y_gno rfl rfl rfl rfl ?_
    refine y_gno rfl rfl rfl rfl ?_
    refine y_gno rfl rfl rfl rfl ?_
    refine y_gno rfl rfl rfl rfl ?_
    refine y_gno rfl rfl rfl rfl ?_
    refine y_k (.bool false : Value) w_20 rfl rfl rfl (by kernel_rfl) ?_
    refine y_k (.bool false : Value) w_20 rfl rfl rfl (by kernel_rfl) ?_
    refine y_gno rfl rfl rfl rfl ?_
    refine y_gno rfl rfl rfl rfl ?_
    refine y_gno rfl rfl rfl rfl ?_
    refine y_k (.bool false : Value) w_20 rfl rfl rfl (by kernel_rfl) ?_
    refine y_k (.slice t41_15.a t41_15.n t41_15.c : Value) w_20 rfl rfl rfl (by kernel_rfl) ?_
    refine y_k (.bool false : Value) w_20 rfl rfl rfl (by kernel_rfl) ?_
    refine y_nil ?_
    exact y_then (hjK8 _ t41_15 false w_20 rfl rfl h)

end Go.Proofs.Ythhcaaellhdkiaa
