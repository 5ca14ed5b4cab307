/- Printed by gen.py (own program, wip/): for each Go function a predicate transformer and its soundness. -/
import Derived.Test.YthhcaaellhdkiaaProg
import Derived.Test.YthhcaaellhdkiaaST
namespace Go.Proofs.Ythhcaaellhdkiaa
open Go Go.RowKit Go.Proofs.Ythhcaaellhdkiaa.SX
set_option linter.unusedVariables false

def F4_l2 (b0_1 : Sl) (most1_2 : Int) (K : Bool → World → Prop) (t20_5 : Sl) (next38 : (Int) → World → Prop) : (Int) → World → Prop := fun (i15_25) w_26 =>
  ((i15_25 < ((t20_5.n : Int)) →
  (0 : Int) ≤ i15_25 ∧ i15_25 < (t20_5.n : Int) ∧ ∃ (a_27 : Addr), t20_5.a = some a_27 ∧
  ∃ (t78_28 : Int), w_26.cell? (a_27.add (Int.toNat i15_25)) = some (.int .u8 t78_28) ∧
  (0 : Int) ≤ i15_25 ∧ i15_25 < (t20_5.n : Int) ∧ ∃ (a_29 : Addr), t20_5.a = some a_29 ∧
  HasCell w_26 (a_29.add (Int.toNat i15_25)) ∧ ∀ (w_30 : World), w_30 = w_26.setCell (a_29.add (Int.toNat i15_25)) (.int .u8 (IntKind.u8.wrap (t78_28 + 1)) : Value) →
  next38 (IntKind.i64.wrap (i15_25 + 1)) w_30) ∧
  (¬ (i15_25 < ((t20_5.n : Int))) →
  ∃ (t85_31 : Sl), (Instr.sliceAt 22 (.slice t20_5.a t20_5.n t20_5.c : Value) none (some (.int .i64 ((b0_1.n : Int)) : Value)) none).run Try.prog w_26 = .ok (.slice t85_31.a t85_31.n t85_31.c : Value) w_26 ∧
  Calls Try.prog 23 #[.slice t85_31.a t85_31.n t85_31.c, .int .i64 most1_2] w_26 fun e w_34 => ∃ (t87_32 : Sl), ∃ (t87_33 : Bool), e = .returned (.tuple #[.slice t87_32.a t87_32.n t87_32.c, .bool t87_33] : Value) ∧
  K t87_33 w_34))
def F4_l1 (b0_1 : Sl) (most1_2 : Int) (K : Bool → World → Prop) (t18_3 : Bool) (t20_5 : Sl) (w_6 : World) (next9 : (Sl × Int) → World → Prop) : (Sl × Int) → World → Prop := fun (all8_8, turn9_9) w_10 =>
  ((turn9_9 < 3 →
  ∃ (t31_11 : Sl), (Instr.sliceAt 22 (.slice t20_5.a t20_5.n t20_5.c : Value) none (some (.int .i64 ((b0_1.n : Int)) : Value)) none).run Try.prog w_10 = .ok (.slice t31_11.a t31_11.n t31_11.c : Value) w_10 ∧
  Calls Try.prog 23 #[.slice t31_11.a t31_11.n t31_11.c, .int .i64 most1_2] w_10 fun e w_14 => ∃ (t33_12 : Sl), ∃ (t33_13 : Bool), e = .returned (.tuple #[.slice t33_12.a t33_12.n t33_12.c, .bool t33_13] : Value) ∧
  Calls Try.prog 20 #[.slice t20_5.a t20_5.n t20_5.c, .slice b0_1.a b0_1.n b0_1.c] w_14 fun e w_16 => ∃ (t38_15 : Bool), e = .returned (.bool t38_15 : Value) ∧
  ((t33_13 = false →
  K false w_16) ∧
  (t33_13 = true →
  ((t38_15 = false →
  K false w_16) ∧
  (t38_15 = true →
  ∀ (w_17 : World), w_17 = w_16.alloc (.cells #[.slice t33_12.a t33_12.n t33_12.c] 22) →
  ∃ (t48_18 : Sl), ∃ (w_19 : World), (Builtin.append_ #[26, 26] 26 #[.slice all8_8.a all8_8.n all8_8.c, .slice (some ⟨w_16.heap.size, 0, none⟩) 1 1]).run Try.prog w_17 = .ok (.slice t48_18.a t48_18.n t48_18.c : Value) w_19 ∧
  next9 (t48_18, IntKind.i64.wrap (turn9_9 + 1)) w_19))))) ∧
  (¬ (turn9_9 < 3) →
  Calls Try.prog 21 #[.pointer (some (⟨w_6.heap.size, 0, none⟩ : Addr)), .slice all8_8.a all8_8.n all8_8.c] w_10 fun e w_20 => e = .returned (.tuple #[] : Value) ∧
  Calls Try.prog 22 #[.pointer (some (⟨w_6.heap.size, 0, none⟩ : Addr))] w_20 fun e w_22 => ∃ (t53_21 : Bool), e = .returned (.bool t53_21 : Value) ∧
  Calls Try.prog 20 #[.slice t20_5.a t20_5.n t20_5.c, .slice b0_1.a b0_1.n b0_1.c] w_22 fun e w_24 => ∃ (t56_23 : Bool), e = .returned (.bool t56_23 : Value) ∧
  ((t18_3 = false →
  K false w_24) ∧
  (t18_3 = true →
  ((t53_21 = false →
  K false w_24) ∧
  (t53_21 = true →
  ((t56_23 = false →
  K false w_24) ∧
  (t56_23 = true →
  kLoop (F4_l2 b0_1 most1_2 K t20_5) (0) w_24))))))))
/-- turnkey/turnkeylaw01.NumGets -/
def F4 (b0_1 : Sl) (most1_2 : Int) (K : Bool → World → Prop) (w : World) : Prop :=
  Calls Try.prog 12 #[] w fun e w_4 => ∃ (t18_3 : Bool), e = .returned (.bool t18_3 : Value) ∧
  Calls Try.prog 13 #[.slice b0_1.a b0_1.n b0_1.c] w_4 fun e w_6 => ∃ (t20_5 : Sl), e = .returned (.slice t20_5.a t20_5.n t20_5.c : Value) ∧
  ∀ (w_7 : World), w_7 = w_6.alloc (.cells #[.slice none 0 0, .slice none 0 0] 28) →
  kLoop (F4_l1 b0_1 most1_2 K t18_3 t20_5 w_6) (⟨none, 0, 0⟩, 0) w_7
set_option maxHeartbeats 4000000 in
set_option maxRecDepth 20000 in
theorem F4_sound (b0_1 : Sl) (most1_2 : Int) (K : Bool → World → Prop) (w : World) (h : F4 b0_1 most1_2 K w) :
    Calls Try.prog 4 #[.slice b0_1.a b0_1.n b0_1.c, .int .i64 most1_2] w (fun e w1 => ∃ (r0 : Bool), e = .returned (.bool r0 : Value) ∧ K r0 w1) := by
  unfold F4 at h
  refine y_enter (n := 91) (args := [.slice b0_1.a b0_1.n b0_1.c, .int .i64 most1_2]) Try.func4 rfl rfl rfl fun Q0 hQ0 => ?_
  refine y_seq fun K1 hK1 => ?_
  refine y_region ?_
  refine y_k (.bool false : Value) w rfl rfl rfl (by kernel_rfl) ?_
  refine y_nil ?_
  refine y_then (hK1 _ _ ?_)
  refine y_seq fun K2 hK2 => ?_
  refine y_region ?_
  refine y_call rfl rfl rfl (by kernel_rfl) (h.mono ?_)
  rintro _ w_4 ⟨t18_3, rfl, h⟩
  refine ⟨_, rfl, ?_⟩
  refine y_k (.bool t18_3 : Value) w_4 rfl rfl rfl (by kernel_rfl) ?_
  refine y_nil ?_
  refine y_then (hK2 _ _ ?_)
  refine y_seq fun K3 hK3 => ?_
  refine y_region ?_
  refine y_k (.slice b0_1.a b0_1.n b0_1.c : Value) w_4 rfl rfl rfl (by kernel_rfl) ?_
  refine y_call rfl rfl rfl (by kernel_rfl) (h.mono ?_)
  rintro _ w_6 ⟨t20_5, rfl, h⟩
  refine ⟨_, rfl, ?_⟩
  refine y_k (.slice t20_5.a t20_5.n t20_5.c : Value) w_6 rfl rfl rfl (by kernel_rfl) ?_
  refine y_nil ?_
  refine y_then (hK3 _ _ ?_)
  refine y_seq fun K4 hK4 => ?_
  refine y_region ?_
  refine y_k (.agg #[.slice none 0 0, .slice none 0 0] : Value) w_6 rfl rfl rfl (by kernel_rfl) ?_
  refine y_k (.pointer (some (⟨w_6.heap.size, 0, none⟩ : Addr)) : Value) (w_6.alloc (.cells #[.slice none 0 0, .slice none 0 0] 28)) rfl rfl rfl (by kernel_rfl) ?_
  replace h := h _ rfl
  generalize w_6.alloc (.cells #[.slice none 0 0, .slice none 0 0] 28) = w_7 at h ⊢
  refine y_k (.pointer (some (⟨w_6.heap.size, 0, none⟩ : Addr)) : Value) w_7 rfl rfl rfl (by kernel_rfl) ?_
  refine y_nil ?_
  refine y_then (hK4 _ _ ?_)
  refine y_seq fun K5 hK5 => ?_
  refine y_region ?_
  refine y_k (.slice none 0 0 : Value) w_7 rfl rfl rfl (by kernel_rfl) ?_
  refine y_nil ?_
  refine y_then (hK5 _ _ ?_)
  refine y_seq fun K6 hK6 => ?_
  refine y_seq fun K7 hK7 => ?_
  refine y_region ?_
  refine y_k (.int .i64 0 : Value) w_7 rfl rfl rfl (by kernel_rfl) ?_
  refine y_nil ?_
  refine y_then (hK7 _ _ ?_)
  refine y_block ?_
  refine y_loop (S := Sl × Int) (fun s j => match s with | (all8_8, turn9_9) => upd (upd (upd (upd (upd (upd (upd (j) 0 (.slice b0_1.a b0_1.n b0_1.c : Value)) 1 (.int .i64 most1_2 : Value)) 5 (.bool t18_3 : Value)) 6 (.slice t20_5.a t20_5.n t20_5.c : Value)) 7 (.pointer (some (⟨w_6.heap.size, 0, none⟩ : Addr)) : Value)) 8 (.slice all8_8.a all8_8.n all8_8.c : Value)) 9 (.int .i64 turn9_9 : Value)) (⟨none, 0, 0⟩, 0) ?_ h ?_
  · dsimp only
    refine upd_id ?_ rfl
    refine upd_id ?_ rfl
    refine upd_id ?_ rfl
    refine upd_id ?_ rfl
    refine upd_id ?_ rfl
    refine upd_id ?_ rfl
    refine upd_id ?_ rfl
    rfl
  rintro KN10 next9 hN10 ⟨all8_8, turn9_9⟩ j w_10 h
  unfold F4_l1 at h
  refine y_seq fun K11 hK11 => ?_
  refine y_seq fun K12 hK12 => ?_
  refine y_region ?_
  refine y_k (.int .i64 turn9_9 : Value) w_10 rfl rfl rfl (by kernel_rfl) ?_
  refine y_k (.bool (decide (turn9_9 < 3)) : Value) w_10 rfl rfl rfl (by kernel_rfl) ?_
  refine y_nil ?_
  refine y_then (hK12 _ _ ?_)
  refine y_cond (decide (turn9_9 < 3)) rfl rfl (fun hb53 => ?_) (fun hb53 => ?_)
  · replace h := h.1 (of_decide_eq_true hb53)
    refine y_skip ?_
    refine y_then (hK11 _ _ ?_)
    refine y_seq fun K13 hK13 => ?_
    refine y_block ?_
    refine y_seq fun K15 hK15 => ?_
    refine y_region ?_
    refine y_k (.slice t20_5.a t20_5.n t20_5.c : Value) w_10 rfl rfl rfl (by kernel_rfl) ?_
    refine y_k (.slice b0_1.a b0_1.n b0_1.c : Value) w_10 rfl rfl rfl (by kernel_rfl) ?_
    refine y_k (.int .i64 ((b0_1.n : Int)) : Value) w_10 rfl rfl rfl (by kernel_rfl) ?_
    obtain ⟨t31_11, hx16, h⟩ := h
    refine y_v (s := Instr.sliceAt 22 (.slice t20_5.a t20_5.n t20_5.c : Value) none (some (.int .i64 ((b0_1.n : Int)) : Value)) none) rfl rfl rfl (by kernel_rfl) (hx16) ?_
    refine y_k (.int .i64 most1_2 : Value) w_10 rfl rfl rfl (by kernel_rfl) ?_
    refine y_call rfl rfl rfl (by kernel_rfl) (h.mono ?_)
    rintro _ w_14 ⟨t33_12, t33_13, rfl, h⟩
    refine ⟨_, rfl, ?_⟩
    refine y_k (.tuple #[.slice t33_12.a t33_12.n t33_12.c, .bool t33_13] : Value) w_14 rfl rfl rfl (by kernel_rfl) ?_
    refine y_k (.slice t33_12.a t33_12.n t33_12.c : Value) w_14 rfl rfl rfl (by kernel_rfl) ?_
    refine y_k (.bool t33_13 : Value) w_14 rfl rfl rfl (by kernel_rfl) ?_
    refine y_k (.slice t33_12.a t33_12.n t33_12.c : Value) w_14 rfl rfl rfl (by kernel_rfl) ?_
    refine y_k (.bool t33_13 : Value) w_14 rfl rfl rfl (by kernel_rfl) ?_
    refine y_nil ?_
    refine y_then (hK15 _ _ ?_)
    refine y_seq fun K17 hK17 => ?_
    refine y_region ?_
    refine y_k (.slice t20_5.a t20_5.n t20_5.c : Value) w_14 rfl rfl rfl (by kernel_rfl) ?_
    refine y_k (.slice b0_1.a b0_1.n b0_1.c : Value) w_14 rfl rfl rfl (by kernel_rfl) ?_
    refine y_call rfl rfl rfl (by kernel_rfl) (h.mono ?_)
    rintro _ w_16 ⟨t38_15, rfl, h⟩
    refine ⟨_, rfl, ?_⟩
    refine y_k (.bool t38_15 : Value) w_16 rfl rfl rfl (by kernel_rfl) ?_
    refine y_nil ?_
    refine y_then (hK17 _ _ ?_)
    refine y_seq fun K18 hK18 => ?_
    refine y_seq fun K19 hK19 => ?_
    refine y_region ?_
    refine y_k (.bool t33_13 : Value) w_16 rfl rfl rfl (by kernel_rfl) ?_
    refine y_k (.bool (!(t33_13)) : Value) w_16 rfl rfl rfl (by kernel_rfl) ?_
    refine y_k (.bool (!(t33_13)) : Value) w_16 rfl rfl rfl (by kernel_rfl) ?_
    refine y_fork (!(t33_13)) (fun hb20 => ?_) (fun hb20 => ?_)
    · replace h := h.1 ((not_true_of hb20))
      refine y_frame (upd_id (i := 41) (v := .bool true) rfl (congrArg Value.bool hb20)) ?_
      refine y_gno rfl rfl rfl rfl ?_
      refine y_gno rfl rfl rfl rfl ?_
      refine y_k (.bool true : Value) w_16 rfl rfl rfl (by kernel_rfl) ?_
      refine y_nil ?_
      refine y_then (hK19 _ _ ?_)
      refine y_cond_t rfl rfl ?_
      refine y_seq fun K21 hK21 => ?_
      refine y_region ?_
      refine y_k (.bool false : Value) w_16 rfl rfl rfl (by kernel_rfl) ?_
      refine y_nil ?_
      refine y_then (hK21 _ _ ?_)
      refine y_ret ?_
      repeat (first | refine e_then_r ?_ | refine e_block_r ?_)
      exact (hQ0 _ _ _ (res1 (v := (.bool false : Value)) rfl rfl rfl) ⟨_, rfl, h⟩).1
    · replace h := h.2 ((not_false_of hb20))
      refine y_frame (upd_id (i := 41) (v := .bool false) rfl (congrArg Value.bool hb20)) ?_
      refine y_gyes rfl rfl rfl ?_
      refine y_k (.bool t38_15 : Value) w_16 rfl rfl rfl (by kernel_rfl) ?_
      refine y_gyes rfl rfl rfl ?_
      refine y_k (.bool (!(t38_15)) : Value) w_16 rfl rfl rfl (by kernel_rfl) ?_
      refine y_k (.bool (!(t38_15)) : Value) w_16 rfl rfl rfl (by kernel_rfl) ?_
      refine y_nil ?_
      refine y_then (hK19 _ _ ?_)
      refine y_cond (!(t38_15)) rfl rfl (fun hb24 => ?_) (fun hb24 => ?_)
      · replace h := h.1 ((not_true_of hb24))
        refine y_seq fun K22 hK22 => ?_
        refine y_region ?_
        refine y_k (.bool false : Value) w_16 rfl rfl rfl (by kernel_rfl) ?_
        refine y_nil ?_
        refine y_then (hK22 _ _ ?_)
        refine y_ret ?_
        repeat (first | refine e_then_r ?_ | refine e_block_r ?_)
        exact (hQ0 _ _ _ (res1 (v := (.bool false : Value)) rfl rfl rfl) ⟨_, rfl, h⟩).1
      · replace h := h.2 ((not_false_of hb24))
        refine y_skip ?_
        refine y_then (hK18 _ _ ?_)
        refine y_region ?_
        refine y_k (.slice all8_8.a all8_8.n all8_8.c : Value) w_16 rfl rfl rfl (by kernel_rfl) ?_
        refine y_k (.slice t33_12.a t33_12.n t33_12.c : Value) w_16 rfl rfl rfl (by kernel_rfl) ?_
        refine y_k (.slice (some ⟨w_16.heap.size, 0, none⟩) 1 1 : Value) (w_16.alloc (.cells #[.slice t33_12.a t33_12.n t33_12.c] 22)) rfl rfl rfl (by kernel_rfl) ?_
        replace h := h _ rfl
        generalize w_16.alloc (.cells #[.slice t33_12.a t33_12.n t33_12.c] 22) = w_17 at h ⊢
        obtain ⟨t48_18, w_19, hx23, h⟩ := h
        refine y_v (s := Builtin.append_ #[26, 26] 26 #[.slice all8_8.a all8_8.n all8_8.c, .slice (some ⟨w_16.heap.size, 0, none⟩) 1 1]) rfl rfl rfl (by kernel_rfl) hx23 ?_
        refine y_k (.slice t48_18.a t48_18.n t48_18.c : Value) w_19 rfl rfl rfl (by kernel_rfl) ?_
        refine y_nil ?_
        refine e_block_n ?_
        refine y_then (hK13 _ _ ?_)
        refine y_region ?_
        refine y_k (.int .i64 turn9_9 : Value) w_19 rfl rfl rfl (by kernel_rfl) ?_
        refine y_k (.int .i64 (IntKind.i64.wrap (turn9_9 + 1)) : Value) w_19 rfl rfl rfl (by kernel_rfl) ?_
        refine y_k (.int .i64 (IntKind.i64.wrap (turn9_9 + 1)) : Value) w_19 rfl rfl rfl (by kernel_rfl) ?_
        refine y_nil ?_
        refine y_then (hN10 (t48_18, IntKind.i64.wrap (turn9_9 + 1)) _ _ h ?_)
        dsimp only
        refine upd_id ?_ rfl
        refine upd_id ?_ rfl
        refine upd_id ?_ rfl
        refine upd_id ?_ rfl
        refine upd_id ?_ rfl
        refine upd_id ?_ rfl
        refine upd_id ?_ rfl
        rfl
  · replace h := h.2 (of_decide_eq_false hb53)
    refine y_exit ?_
    repeat (first | refine e_then_x ?_ | refine e_block_y rfl ?_)
    refine e_block_x ?_
    refine y_then (hK6 _ _ ?_)
    refine y_seq fun K25 hK25 => ?_
    refine y_region ?_
    refine y_k (.pointer (some (⟨w_6.heap.size, 0, none⟩ : Addr)) : Value) w_10 rfl rfl rfl (by kernel_rfl) ?_
    refine y_k (.slice all8_8.a all8_8.n all8_8.c : Value) w_10 rfl rfl rfl (by kernel_rfl) ?_
    refine y_call rfl rfl rfl (by kernel_rfl) (h.mono ?_)
    rintro _ w_20 ⟨rfl, h⟩
    refine ⟨_, rfl, ?_⟩
    refine y_nil ?_
    refine y_then (hK25 _ _ ?_)
    refine y_seq fun K26 hK26 => ?_
    refine y_region ?_
    refine y_k (.pointer (some (⟨w_6.heap.size, 0, none⟩ : Addr)) : Value) w_20 rfl rfl rfl (by kernel_rfl) ?_
    refine y_call rfl rfl rfl (by kernel_rfl) (h.mono ?_)
    rintro _ w_22 ⟨t53_21, rfl, h⟩
    refine ⟨_, rfl, ?_⟩
    refine y_k (.bool t53_21 : Value) w_22 rfl rfl rfl (by kernel_rfl) ?_
    refine y_nil ?_
    refine y_then (hK26 _ _ ?_)
    refine y_seq fun K27 hK27 => ?_
    refine y_region ?_
    refine y_k (.slice t20_5.a t20_5.n t20_5.c : Value) w_22 rfl rfl rfl (by kernel_rfl) ?_
    refine y_k (.slice b0_1.a b0_1.n b0_1.c : Value) w_22 rfl rfl rfl (by kernel_rfl) ?_
    refine y_call rfl rfl rfl (by kernel_rfl) (h.mono ?_)
    rintro _ w_24 ⟨t56_23, rfl, h⟩
    refine ⟨_, rfl, ?_⟩
    refine y_k (.bool t56_23 : Value) w_24 rfl rfl rfl (by kernel_rfl) ?_
    refine y_nil ?_
    refine y_then (hK27 _ _ ?_)
    refine y_seq fun K28 hK28 => ?_
    refine y_seq fun K29 hK29 => ?_
    refine y_region ?_
    refine y_k (.bool t18_3 : Value) w_24 rfl rfl rfl (by kernel_rfl) ?_
    refine y_k (.bool (!(t18_3)) : Value) w_24 rfl rfl rfl (by kernel_rfl) ?_
    refine y_k (.bool (!(t18_3)) : Value) w_24 rfl rfl rfl (by kernel_rfl) ?_
    refine y_fork (!(t18_3)) (fun hb30 => ?_) (fun hb30 => ?_)
    · replace h := h.1 ((not_true_of hb30))
      refine y_frame (upd_id (i := 59) (v := .bool true) rfl (congrArg Value.bool hb30)) ?_
      refine y_gno rfl rfl rfl rfl ?_
      refine y_gno rfl rfl rfl rfl ?_
      refine y_k (.bool true : Value) w_24 rfl rfl rfl (by kernel_rfl) ?_
      refine y_k (.bool true : Value) w_24 rfl rfl rfl (by kernel_rfl) ?_
      refine y_gno rfl rfl rfl rfl ?_
      refine y_gno rfl rfl rfl rfl ?_
      refine y_k (.bool true : Value) w_24 rfl rfl rfl (by kernel_rfl) ?_
      refine y_nil ?_
      refine y_then (hK29 _ _ ?_)
      refine y_cond_t rfl rfl ?_
      refine y_seq fun K31 hK31 => ?_
      refine y_region ?_
      refine y_k (.bool false : Value) w_24 rfl rfl rfl (by kernel_rfl) ?_
      refine y_nil ?_
      refine y_then (hK31 _ _ ?_)
      refine y_ret ?_
      repeat (first | refine e_then_r ?_ | refine e_block_r ?_)
      exact (hQ0 _ _ _ (res1 (v := (.bool false : Value)) rfl rfl rfl) ⟨_, rfl, h⟩).1
    · replace h := h.2 ((not_false_of hb30))
      refine y_frame (upd_id (i := 59) (v := .bool false) rfl (congrArg Value.bool hb30)) ?_
      refine y_gyes rfl rfl rfl ?_
      refine y_k (.bool t53_21 : Value) w_24 rfl rfl rfl (by kernel_rfl) ?_
      refine y_gyes rfl rfl rfl ?_
      refine y_k (.bool (!(t53_21)) : Value) w_24 rfl rfl rfl (by kernel_rfl) ?_
      refine y_k (.bool (!(t53_21)) : Value) w_24 rfl rfl rfl (by kernel_rfl) ?_
      refine y_k (.bool (!(t53_21)) : Value) w_24 rfl rfl rfl (by kernel_rfl) ?_
      refine y_fork (!(t53_21)) (fun hb32 => ?_) (fun hb32 => ?_)
      · replace h := h.1 ((not_true_of hb32))
        refine y_frame (upd_id (i := 63) (v := .bool true) rfl (congrArg Value.bool hb32)) ?_
        refine y_gno rfl rfl rfl rfl ?_
        refine y_gno rfl rfl rfl rfl ?_
        refine y_k (.bool true : Value) w_24 rfl rfl rfl (by kernel_rfl) ?_
        refine y_nil ?_
        refine y_then (hK29 _ _ ?_)
        refine y_cond_t rfl rfl ?_
        refine y_seq fun K33 hK33 => ?_
        refine y_region ?_
        refine y_k (.bool false : Value) w_24 rfl rfl rfl (by kernel_rfl) ?_
        refine y_nil ?_
        refine y_then (hK33 _ _ ?_)
        refine y_ret ?_
        repeat (first | refine e_then_r ?_ | refine e_block_r ?_)
        exact (hQ0 _ _ _ (res1 (v := (.bool false : Value)) rfl rfl rfl) ⟨_, rfl, h⟩).1
      · replace h := h.2 ((not_false_of hb32))
        refine y_frame (upd_id (i := 63) (v := .bool false) rfl (congrArg Value.bool hb32)) ?_
        refine y_gyes rfl rfl rfl ?_
        refine y_k (.bool t56_23 : Value) w_24 rfl rfl rfl (by kernel_rfl) ?_
        refine y_gyes rfl rfl rfl ?_
        refine y_k (.bool (!(t56_23)) : Value) w_24 rfl rfl rfl (by kernel_rfl) ?_
        refine y_k (.bool (!(t56_23)) : Value) w_24 rfl rfl rfl (by kernel_rfl) ?_
        refine y_nil ?_
        refine y_then (hK29 _ _ ?_)
        refine y_cond (!(t56_23)) rfl rfl (fun hb52 => ?_) (fun hb52 => ?_)
        · replace h := h.1 ((not_true_of hb52))
          refine y_seq fun K34 hK34 => ?_
          refine y_region ?_
          refine y_k (.bool false : Value) w_24 rfl rfl rfl (by kernel_rfl) ?_
          refine y_nil ?_
          refine y_then (hK34 _ _ ?_)
          refine y_ret ?_
          repeat (first | refine e_then_r ?_ | refine e_block_r ?_)
          exact (hQ0 _ _ _ (res1 (v := (.bool false : Value)) rfl rfl rfl) ⟨_, rfl, h⟩).1
        · replace h := h.2 ((not_false_of hb52))
          refine y_skip ?_
          refine y_then (hK28 _ _ ?_)
          refine y_seq fun K35 hK35 => ?_
          refine y_seq fun K36 hK36 => ?_
          refine y_region ?_
          refine y_k (.int .i64 0 : Value) w_24 rfl rfl rfl (by kernel_rfl) ?_
          refine y_nil ?_
          refine y_then (hK36 _ _ ?_)
          refine y_block ?_
          refine y_loop (S := Int) (fun s j => match s with | (i15_25) => upd (upd (upd (upd (j) 0 (.slice b0_1.a b0_1.n b0_1.c : Value)) 1 (.int .i64 most1_2 : Value)) 6 (.slice t20_5.a t20_5.n t20_5.c : Value)) 15 (.int .i64 i15_25 : Value)) (0) ?_ h ?_
          · dsimp only
            refine upd_id ?_ rfl
            refine upd_id ?_ rfl
            refine upd_id ?_ rfl
            refine upd_id ?_ rfl
            rfl
          rintro KN39 next38 hN39 i15_25 j w_26 h
          unfold F4_l2 at h
          refine y_seq fun K40 hK40 => ?_
          refine y_seq fun K41 hK41 => ?_
          refine y_region ?_
          refine y_k (.int .i64 i15_25 : Value) w_26 rfl rfl rfl (by kernel_rfl) ?_
          refine y_k (.slice t20_5.a t20_5.n t20_5.c : Value) w_26 rfl rfl rfl (by kernel_rfl) ?_
          refine y_k (.int .i64 ((t20_5.n : Int)) : Value) w_26 rfl rfl rfl (by kernel_rfl) ?_
          refine y_k (.bool (decide (i15_25 < ((t20_5.n : Int)))) : Value) w_26 rfl rfl rfl (by kernel_rfl) ?_
          refine y_nil ?_
          refine y_then (hK41 _ _ ?_)
          refine y_cond (decide (i15_25 < ((t20_5.n : Int)))) rfl rfl (fun hb51 => ?_) (fun hb51 => ?_)
          · replace h := h.1 (of_decide_eq_true hb51)
            refine y_skip ?_
            refine y_then (hK40 _ _ ?_)
            refine y_seq fun K42 hK42 => ?_
            refine y_block ?_
            refine y_region ?_
            refine y_k (.slice t20_5.a t20_5.n t20_5.c : Value) w_26 rfl rfl rfl (by kernel_rfl) ?_
            refine y_k (.int .i64 i15_25 : Value) w_26 rfl rfl rfl (by kernel_rfl) ?_
            refine y_k (.slice t20_5.a t20_5.n t20_5.c : Value) w_26 rfl rfl rfl (by kernel_rfl) ?_
            refine y_k (.int .i64 i15_25 : Value) w_26 rfl rfl rfl (by kernel_rfl) ?_
            obtain ⟨hx44a, hx44b, a_27, hx44, h⟩ := h
            refine y_v (v := (.pointer (some (a_27.add (Int.toNat i15_25))) : Value)) (s := Instr.indexAt 22 (.slice t20_5.a t20_5.n t20_5.c : Value) (.int .i64 i15_25 : Value)) rfl rfl rfl (by kernel_rfl) (run_ixs1 (el := 5) (by kernel_rfl) (by kernel_rfl) hx44 hx44a hx44b) ?_
            obtain ⟨t78_28, hx45, h⟩ := h
            refine y_v (s := Instr.loadAt 5 (.pointer (some (a_27.add (Int.toNat i15_25))))) rfl rfl rfl (by kernel_rfl) (rn_load (by kernel_rfl) hx45) ?_
            refine y_k (.int .u8 (IntKind.u8.wrap (t78_28 + 1)) : Value) w_26 rfl rfl rfl (by kernel_rfl) ?_
            obtain ⟨hx46a, hx46b, a_29, hx46, h⟩ := h
            refine y_v (v := (.pointer (some (a_29.add (Int.toNat i15_25))) : Value)) (s := Instr.indexAt 22 (.slice t20_5.a t20_5.n t20_5.c : Value) (.int .i64 i15_25 : Value)) rfl rfl rfl (by kernel_rfl) (run_ixs1 (el := 5) (by kernel_rfl) (by kernel_rfl) hx46 hx46a hx46b) ?_
            obtain ⟨hx47, h⟩ := h
            replace h := h _ rfl
            refine y_u (s := Instr.storeAt 5 (.pointer (some (a_29.add (Int.toNat i15_25)))) (.int .u8 (IntKind.u8.wrap (t78_28 + 1)) : Value)) rfl rfl (by kernel_rfl) (rn_store1 (by kernel_rfl) rfl hx47) ?_
            generalize w_26.setCell (a_29.add (Int.toNat i15_25)) (.int .u8 (IntKind.u8.wrap (t78_28 + 1)) : Value) = w_30 at h ⊢
            refine y_nil ?_
            refine e_block_n ?_
            refine y_then (hK42 _ _ ?_)
            refine y_region ?_
            refine y_k (.int .i64 i15_25 : Value) w_30 rfl rfl rfl (by kernel_rfl) ?_
            refine y_k (.int .i64 (IntKind.i64.wrap (i15_25 + 1)) : Value) w_30 rfl rfl rfl (by kernel_rfl) ?_
            refine y_k (.int .i64 (IntKind.i64.wrap (i15_25 + 1)) : Value) w_30 rfl rfl rfl (by kernel_rfl) ?_
            refine y_nil ?_
            refine y_then (hN39 (IntKind.i64.wrap (i15_25 + 1)) _ _ h ?_)
            dsimp only
            refine upd_id ?_ rfl
            refine upd_id ?_ rfl
            refine upd_id ?_ rfl
            refine upd_id ?_ rfl
            rfl
          · replace h := h.2 (of_decide_eq_false hb51)
            refine y_exit ?_
            repeat (first | refine e_then_x ?_ | refine e_block_y rfl ?_)
            refine e_block_x ?_
            refine y_then (hK35 _ _ ?_)
            refine y_seq fun K48 hK48 => ?_
            refine y_region ?_
            refine y_k (.slice t20_5.a t20_5.n t20_5.c : Value) w_26 rfl rfl rfl (by kernel_rfl) ?_
            refine y_k (.slice b0_1.a b0_1.n b0_1.c : Value) w_26 rfl rfl rfl (by kernel_rfl) ?_
            refine y_k (.int .i64 ((b0_1.n : Int)) : Value) w_26 rfl rfl rfl (by kernel_rfl) ?_
            obtain ⟨t85_31, hx49, h⟩ := h
            refine y_v (s := Instr.sliceAt 22 (.slice t20_5.a t20_5.n t20_5.c : Value) none (some (.int .i64 ((b0_1.n : Int)) : Value)) none) rfl rfl rfl (by kernel_rfl) (hx49) ?_
            refine y_k (.int .i64 most1_2 : Value) w_26 rfl rfl rfl (by kernel_rfl) ?_
            refine y_call rfl rfl rfl (by kernel_rfl) (h.mono ?_)
            rintro _ w_34 ⟨t87_32, t87_33, rfl, h⟩
            refine ⟨_, rfl, ?_⟩
            refine y_k (.tuple #[.slice t87_32.a t87_32.n t87_32.c, .bool t87_33] : Value) w_34 rfl rfl rfl (by kernel_rfl) ?_
            refine y_k (.slice t87_32.a t87_32.n t87_32.c : Value) w_34 rfl rfl rfl (by kernel_rfl) ?_
            refine y_k (.bool t87_33 : Value) w_34 rfl rfl rfl (by kernel_rfl) ?_
            refine y_k (.slice t87_32.a t87_32.n t87_32.c : Value) w_34 rfl rfl rfl (by kernel_rfl) ?_
            refine y_k (.bool t87_33 : Value) w_34 rfl rfl rfl (by kernel_rfl) ?_
            refine y_nil ?_
            refine y_then (hK48 _ _ ?_)
            refine y_seq fun K50 hK50 => ?_
            refine y_region ?_
            refine y_k (.bool t87_33 : Value) w_34 rfl rfl rfl (by kernel_rfl) ?_
            refine y_k (.bool t87_33 : Value) w_34 rfl rfl rfl (by kernel_rfl) ?_
            refine y_nil ?_
            refine y_then (hK50 _ _ ?_)
            refine y_ret ?_
            repeat (first | refine e_then_r ?_ | refine e_block_r ?_)
            exact (hQ0 _ _ _ (res1 (v := (.bool t87_33 : Value)) rfl rfl rfl) ⟨_, rfl, h⟩).1

end Go.Proofs.Ythhcaaellhdkiaa
