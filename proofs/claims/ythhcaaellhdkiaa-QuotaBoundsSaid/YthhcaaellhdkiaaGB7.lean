/- Printed by gen.py (own program, wip/): for each Go function a predicate transformer and its soundness. -/
import Derived.Test.YthhcaaellhdkiaaProg
import Derived.Test.YthhcaaellhdkiaaST
namespace Go.Proofs.Ythhcaaellhdkiaa
open Go Go.RowKit Go.Proofs.Ythhcaaellhdkiaa.SX
set_option linter.unusedVariables false

def F7_j2 (K : Bool → World → Prop) (t2_45 : Bool) (w_46 : World) : Prop :=
  K t2_45 w_46
def F7_j3 (K : Bool → World → Prop) (t2_55 : Bool) (w_56 : World) : Prop :=
  K t2_55 w_56
def F7_l1 (script0_1 : Sl) (K : Bool → World → Prop) (w_13 : World) (next22 : (Int) → World → Prop) : (Int) → World → Prop := fun (i5_23) w_24 =>
  ((i5_23 < ((script0_1.n : Int)) →
  ((i5_23 < 1000 →
  ∀ (w_25 : World), w_25 = w_24.drew →
  (0 : Int) ≤ i5_23 ∧ i5_23 < (script0_1.n : Int) ∧ ∃ (a_26 : Addr), script0_1.a = some a_26 ∧
  ∃ (t54_27 : Int), w_25.cell? ((a_26.add (Int.toNat i5_23 * 4)).add 1) = some (.int .i64 t54_27) ∧
  (0 : Int) ≤ (ibits .and .i64 t54_27 1) ∧ (ibits .and .i64 t54_27 1) < (2 : Int) ∧ ∃ (a_28 : Addr), some ⟨w_13.heap.size, 0, none⟩ = some a_28 ∧
  ∃ (t57_29 : Option Addr), w_25.cell? (a_28.add (Int.toNat (ibits .and .i64 t54_27 1))) = some (.pointer t57_29) ∧
  (0 : Int) ≤ i5_23 ∧ i5_23 < (script0_1.n : Int) ∧ ∃ (a_30 : Addr), script0_1.a = some a_30 ∧
  ∃ (t61_31 : Int), ∃ (t61_32 : Int), ∃ (t61_33 : Int), ∃ (t61_34 : Int), CellsAt w_25 (a_30.add (Int.toNat i5_23 * 4)) 0 [.int .i64 t61_31, .int .i64 t61_32, .int .u64 t61_33, .int .i64 t61_34] ∧
  Calls Try.prog 35 #[.pointer t57_29, .agg #[.int .i64 t61_31, .int .i64 t61_32, .int .u64 t61_33, .int .i64 t61_34]] w_25 fun e w_36 => ∃ (t62_35 : Bool), e = .returned (.bool t62_35 : Value) ∧ 
  ((t62_35 = false →
  K false w_36) ∧
  (t62_35 = true →
  next22 (IntKind.i64.wrap (i5_23 + 1)) w_36))) ∧
  (¬ (i5_23 < 1000) →
  (0 : Int) ≤ 0 ∧ 0 < (2 : Int) ∧ ∃ (a_37 : Addr), some ⟨w_13.heap.size, 0, none⟩ = some a_37 ∧
  ∃ (t67_38 : Option Addr), w_24.cell? (a_37.add (Int.toNat 0)) = some (.pointer t67_38) ∧
  Calls Try.prog 36 #[.pointer t67_38] w_24 fun e w_40 => ∃ (t68_39 : Bool), e = .returned (.bool t68_39 : Value) ∧
  (0 : Int) ≤ 1 ∧ 1 < (2 : Int) ∧ ∃ (a_41 : Addr), some ⟨w_13.heap.size, 0, none⟩ = some a_41 ∧
  ∃ (t71_42 : Option Addr), w_40.cell? (a_41.add (Int.toNat 1)) = some (.pointer t71_42) ∧
  Calls Try.prog 36 #[.pointer t71_42] w_40 fun e w_44 => ∃ (t72_43 : Bool), e = .returned (.bool t72_43 : Value) ∧
  ((t68_39 = true →
  F7_j2 K t72_43 w_44) ∧
  (t68_39 = false →
  F7_j2 K false w_44))))) ∧
  (¬ (i5_23 < ((script0_1.n : Int))) →
  (0 : Int) ≤ 0 ∧ 0 < (2 : Int) ∧ ∃ (a_47 : Addr), some ⟨w_13.heap.size, 0, none⟩ = some a_47 ∧
  ∃ (t67_48 : Option Addr), w_24.cell? (a_47.add (Int.toNat 0)) = some (.pointer t67_48) ∧
  Calls Try.prog 36 #[.pointer t67_48] w_24 fun e w_50 => ∃ (t68_49 : Bool), e = .returned (.bool t68_49 : Value) ∧
  (0 : Int) ≤ 1 ∧ 1 < (2 : Int) ∧ ∃ (a_51 : Addr), some ⟨w_13.heap.size, 0, none⟩ = some a_51 ∧
  ∃ (t71_52 : Option Addr), w_50.cell? (a_51.add (Int.toNat 1)) = some (.pointer t71_52) ∧
  Calls Try.prog 36 #[.pointer t71_52] w_50 fun e w_54 => ∃ (t72_53 : Bool), e = .returned (.bool t72_53 : Value) ∧
  ((t68_49 = true →
  F7_j3 K t72_53 w_54) ∧
  (t68_49 = false →
  F7_j3 K false w_54))))
/-- turnkey/turnkeylaw03.BitsWrites -/
def F7 (script0_1 : Sl) (K : Bool → World → Prop) (w : World) : Prop :=
  Calls Try.prog 32 #[] w fun e w_3 => ∃ (t9_2 : Bool), e = .returned (.bool t9_2 : Value) ∧
  Calls Try.prog 33 #[] w_3 fun e w_5 => ∃ (t10_4 : Option Addr), e = .returned (.pointer t10_4 : Value) ∧
  Calls Try.prog 34 #[] w_5 fun e w_7 => ∃ (t11_6 : Option Addr), e = .returned (.pointer t11_6 : Value) ∧
  ∀ (w_8 : World), w_8 = w_7.alloc (.cells #[.pointer t10_4, .pointer t11_6, .slice none 0 0, .int .u8 0, .int .i64 0] 65) →
  Calls Try.prog 33 #[] w_8 fun e w_10 => ∃ (t14_9 : Option Addr), e = .returned (.pointer t14_9 : Value) ∧
  Calls Try.prog 34 #[] w_10 fun e w_12 => ∃ (t15_11 : Option Addr), e = .returned (.pointer t15_11 : Value) ∧
  ∀ (w_13 : World), w_13 = w_12.alloc (.cells #[.pointer t14_9, .pointer t15_11, .slice none 0 0, .int .u8 0, .int .i64 0] 65) →
  ∀ (w_14 : World), w_14 = w_13.alloc (.cells #[.pointer (some (⟨w_7.heap.size, 0, none⟩ : Addr)), .pointer (some (⟨w_12.heap.size, 0, none⟩ : Addr))] 59) →
  ((t9_2 = false →
  K false w_14) ∧
  (t9_2 = true →
  (0 : Int) ≤ 0 ∧ 0 < (2 : Int) ∧ ∃ (a_15 : Addr), some ⟨w_13.heap.size, 0, none⟩ = some a_15 ∧
  ∃ (t24_16 : Option Addr), w_14.cell? (a_15.add (Int.toNat 0)) = some (.pointer t24_16) ∧
  ∃ (a_17 : Addr), t24_16 = some a_17 ∧
  ∃ (t27_18 : Option Addr), w_14.cell? a_17 = some (.pointer t27_18) ∧
  ((t27_18.isNone = true →
  K false w_14) ∧
  (t27_18.isNone = false →
  (0 : Int) ≤ 1 ∧ 1 < (2 : Int) ∧ ∃ (a_19 : Addr), some ⟨w_13.heap.size, 0, none⟩ = some a_19 ∧
  ∃ (t33_20 : Option Addr), w_14.cell? (a_19.add (Int.toNat 1)) = some (.pointer t33_20) ∧
  ∃ (a_21 : Addr), t33_20 = some a_21 ∧
  ∃ (t36_22 : Option Addr), w_14.cell? a_21 = some (.pointer t36_22) ∧
  ((t36_22.isNone = true →
  K false w_14) ∧
  (t36_22.isNone = false →
  kLoop (F7_l1 script0_1 K w_13) (0) w_14))))))
set_option maxHeartbeats 4000000 in
set_option maxRecDepth 20000 in
theorem F7_sound (script0_1 : Sl) (K : Bool → World → Prop) (w : World) (h : F7 script0_1 K w) :
    Calls Try.prog 7 #[.slice script0_1.a script0_1.n script0_1.c] w (fun e w1 => ∃ (r0 : Bool), e = .returned (.bool r0 : Value) ∧ K r0 w1) := by
  unfold F7 at h
  refine y_enter (n := 77) (args := [.slice script0_1.a script0_1.n script0_1.c]) Try.func7 rfl rfl rfl fun Q0 hQ0 => ?_
  refine y_seq fun K1 hK1 => ?_
  refine y_region ?_
  refine y_k (.bool false : Value) w rfl rfl rfl (by kernel_rfl) ?_
  refine y_nil ?_
  refine y_then (hK1 _ _ ?_)
  refine y_seq fun K2 hK2 => ?_
  refine y_region ?_
  refine y_call rfl rfl rfl (by kernel_rfl) (h.mono ?_)
  rintro _ w_3 ⟨t9_2, rfl, h⟩
  refine ⟨_, rfl, ?_⟩
  refine y_k (.bool t9_2 : Value) w_3 rfl rfl rfl (by kernel_rfl) ?_
  refine y_nil ?_
  refine y_then (hK2 _ _ ?_)
  refine y_seq fun K3 hK3 => ?_
  refine y_region ?_
  refine y_call rfl rfl rfl (by kernel_rfl) (h.mono ?_)
  rintro _ w_5 ⟨t10_4, rfl, h⟩
  refine ⟨_, rfl, ?_⟩
  refine y_call rfl rfl rfl (by kernel_rfl) (h.mono ?_)
  rintro _ w_7 ⟨t11_6, rfl, h⟩
  refine ⟨_, rfl, ?_⟩
  refine y_k (.agg #[.pointer t10_4, .pointer t11_6, .slice none 0 0, .int .u8 0, .int .i64 0] : Value) w_7 rfl rfl rfl (by kernel_rfl) ?_
  refine y_k (.pointer (some (⟨w_7.heap.size, 0, none⟩ : Addr)) : Value) (w_7.alloc (.cells #[.pointer t10_4, .pointer t11_6, .slice none 0 0, .int .u8 0, .int .i64 0] 65)) rfl rfl rfl (by kernel_rfl) ?_
  replace h := h _ rfl
  generalize w_7.alloc (.cells #[.pointer t10_4, .pointer t11_6, .slice none 0 0, .int .u8 0, .int .i64 0] 65) = w_8 at h ⊢
  refine y_call rfl rfl rfl (by kernel_rfl) (h.mono ?_)
  rintro _ w_10 ⟨t14_9, rfl, h⟩
  refine ⟨_, rfl, ?_⟩
  refine y_call rfl rfl rfl (by kernel_rfl) (h.mono ?_)
  rintro _ w_12 ⟨t15_11, rfl, h⟩
  refine ⟨_, rfl, ?_⟩
  refine y_k (.agg #[.pointer t14_9, .pointer t15_11, .slice none 0 0, .int .u8 0, .int .i64 0] : Value) w_12 rfl rfl rfl (by kernel_rfl) ?_
  refine y_k (.pointer (some (⟨w_12.heap.size, 0, none⟩ : Addr)) : Value) (w_12.alloc (.cells #[.pointer t14_9, .pointer t15_11, .slice none 0 0, .int .u8 0, .int .i64 0] 65)) rfl rfl rfl (by kernel_rfl) ?_
  replace h := h _ rfl
  generalize w_12.alloc (.cells #[.pointer t14_9, .pointer t15_11, .slice none 0 0, .int .u8 0, .int .i64 0] 65) = w_13 at h ⊢
  refine y_k (.slice (some ⟨w_13.heap.size, 0, none⟩) 2 2 : Value) (w_13.alloc (.cells #[.pointer (some (⟨w_7.heap.size, 0, none⟩ : Addr)), .pointer (some (⟨w_12.heap.size, 0, none⟩ : Addr))] 59)) rfl rfl rfl (by kernel_rfl) ?_
  replace h := h _ rfl
  generalize w_13.alloc (.cells #[.pointer (some (⟨w_7.heap.size, 0, none⟩ : Addr)), .pointer (some (⟨w_12.heap.size, 0, none⟩ : Addr))] 59) = w_14 at h ⊢
  refine y_k (.slice (some ⟨w_13.heap.size, 0, none⟩) 2 2 : Value) w_14 rfl rfl rfl (by kernel_rfl) ?_
  refine y_nil ?_
  refine y_then (hK3 _ _ ?_)
  refine y_seq fun K4 hK4 => ?_
  refine y_seq fun K5 hK5 => ?_
  refine y_region ?_
  refine y_k (.bool t9_2 : Value) w_14 rfl rfl rfl (by kernel_rfl) ?_
  refine y_k (.bool (!(t9_2)) : Value) w_14 rfl rfl rfl (by kernel_rfl) ?_
  refine y_k (.bool (!(t9_2)) : Value) w_14 rfl rfl rfl (by kernel_rfl) ?_
  refine y_fork (!(t9_2)) (fun hb6 => ?_) (fun hb6 => ?_)
  · replace h := h.1 ((not_true_of hb6))
    refine y_frame (upd_id (i := 21) (v := .bool true) rfl (congrArg Value.bool hb6)) ?_
    refine y_gno rfl rfl rfl rfl ?_
    refine y_gno rfl rfl rfl rfl ?_
    refine y_gno rfl rfl rfl rfl ?_
    refine y_gno rfl rfl rfl rfl ?_
    refine y_gno rfl rfl rfl rfl ?_
    refine y_gno rfl rfl rfl rfl ?_
    refine y_gno rfl rfl rfl rfl ?_
    refine y_k (.bool true : Value) w_14 rfl rfl rfl (by kernel_rfl) ?_
    refine y_k (.bool true : Value) w_14 rfl rfl rfl (by kernel_rfl) ?_
    refine y_gno rfl rfl rfl rfl ?_
    refine y_gno rfl rfl rfl rfl ?_
    refine y_gno rfl rfl rfl rfl ?_
    refine y_gno rfl rfl rfl rfl ?_
    refine y_gno rfl rfl rfl rfl ?_
    refine y_gno rfl rfl rfl rfl ?_
    refine y_gno rfl rfl rfl rfl ?_
    refine y_k (.bool true : Value) w_14 rfl rfl rfl (by kernel_rfl) ?_
    refine y_nil ?_
    refine y_then (hK5 _ _ ?_)
    refine y_cond_t rfl rfl ?_
    refine y_seq fun K7 hK7 => ?_
    refine y_region ?_
    refine y_k (.bool false : Value) w_14 rfl rfl rfl (by kernel_rfl) ?_
    refine y_nil ?_
    refine y_then (hK7 _ _ ?_)
    refine y_ret ?_
    repeat (first | refine e_then_r ?_ | refine e_block_r ?_)
    exact (hQ0 _ _ _ (res1 (v := (.bool false : Value)) rfl rfl rfl) ⟨_, rfl, h⟩).1
  · replace h := h.2 ((not_false_of hb6))
    refine y_frame (upd_id (i := 21) (v := .bool false) rfl (congrArg Value.bool hb6)) ?_
    refine y_gyes rfl rfl rfl ?_
    refine y_k (.slice (some ⟨w_13.heap.size, 0, none⟩) 2 2 : Value) w_14 rfl rfl rfl (by kernel_rfl) ?_
    refine y_gyes rfl rfl rfl ?_
    obtain ⟨hx8a, hx8b, a_15, hx8, h⟩ := h
    refine y_v (v := (.pointer (some (a_15.add (Int.toNat 0))) : Value)) (s := Instr.indexAt 66 (.slice (some ⟨w_13.heap.size, 0, none⟩) 2 2 : Value) (.int .i64 0 : Value)) rfl rfl rfl (by kernel_rfl) (run_ixs1 (el := 59) (by kernel_rfl) (by kernel_rfl) hx8 hx8a hx8b) ?_
    refine y_gyes rfl rfl rfl ?_
    obtain ⟨t24_16, hx9, h⟩ := h
    refine y_v (s := Instr.loadAt 59 (.pointer (some (a_15.add (Int.toNat 0))))) rfl rfl rfl (by kernel_rfl) (rn_load (by kernel_rfl) hx9) ?_
    refine y_gyes rfl rfl rfl ?_
    obtain ⟨a_17, hx10, h⟩ := h
    refine y_k (.pointer (some a_17) : Value) w_14 rfl rfl rfl (run_nilCheck hx10 rfl) ?_
    refine y_gyes rfl rfl rfl ?_
    refine y_k (.pointer (some a_17) : Value) w_14 rfl rfl rfl (by kernel_rfl) ?_
    refine y_gyes rfl rfl rfl ?_
    obtain ⟨t27_18, hx11, h⟩ := h
    refine y_v (s := Instr.loadAt 60 (.pointer (some a_17))) rfl rfl rfl (by kernel_rfl) (rn_load (by kernel_rfl) hx11) ?_
    refine y_gyes rfl rfl rfl ?_
    refine y_v (v := (.bool t27_18.isNone : Value)) (s := do eqGuard .eql 60 (Operand.tmp 27) (Operand.const (Value.pointer none)) (.pointer t27_18 : Value) (.pointer none : Value); binOp .eql 60 (.pointer t27_18 : Value) (.pointer none : Value)) rfl rfl rfl (by kernel_rfl) (run_eql_ptrnil (by kernel_rfl)) ?_
    refine y_k (.bool t27_18.isNone : Value) w_14 rfl rfl rfl (by kernel_rfl) ?_
    refine y_k (.bool t27_18.isNone : Value) w_14 rfl rfl rfl (by kernel_rfl) ?_
    refine y_fork (t27_18.isNone) (fun hb12 => ?_) (fun hb12 => ?_)
    · replace h := h.1 (hb12)
      refine y_frame (upd_id (i := 30) (v := .bool true) rfl (congrArg Value.bool hb12)) ?_
      refine y_gno rfl rfl rfl rfl ?_
      refine y_gno rfl rfl rfl rfl ?_
      refine y_gno rfl rfl rfl rfl ?_
      refine y_gno rfl rfl rfl rfl ?_
      refine y_gno rfl rfl rfl rfl ?_
      refine y_gno rfl rfl rfl rfl ?_
      refine y_gno rfl rfl rfl rfl ?_
      refine y_k (.bool true : Value) w_14 rfl rfl rfl (by kernel_rfl) ?_
      refine y_nil ?_
      refine y_then (hK5 _ _ ?_)
      refine y_cond_t rfl rfl ?_
      refine y_seq fun K13 hK13 => ?_
      refine y_region ?_
      refine y_k (.bool false : Value) w_14 rfl rfl rfl (by kernel_rfl) ?_
      refine y_nil ?_
      refine y_then (hK13 _ _ ?_)
      refine y_ret ?_
      repeat (first | refine e_then_r ?_ | refine e_block_r ?_)
      exact (hQ0 _ _ _ (res1 (v := (.bool false : Value)) rfl rfl rfl) ⟨_, rfl, h⟩).1
    · replace h := h.2 (hb12)
      refine y_frame (upd_id (i := 30) (v := .bool false) rfl (congrArg Value.bool hb12)) ?_
      refine y_gyes rfl rfl rfl ?_
      refine y_k (.slice (some ⟨w_13.heap.size, 0, none⟩) 2 2 : Value) w_14 rfl rfl rfl (by kernel_rfl) ?_
      refine y_gyes rfl rfl rfl ?_
      obtain ⟨hx14a, hx14b, a_19, hx14, h⟩ := h
      refine y_v (v := (.pointer (some (a_19.add (Int.toNat 1))) : Value)) (s := Instr.indexAt 66 (.slice (some ⟨w_13.heap.size, 0, none⟩) 2 2 : Value) (.int .i64 1 : Value)) rfl rfl rfl (by kernel_rfl) (run_ixs1 (el := 59) (by kernel_rfl) (by kernel_rfl) hx14 hx14a hx14b) ?_
      refine y_gyes rfl rfl rfl ?_
      obtain ⟨t33_20, hx15, h⟩ := h
      refine y_v (s := Instr.loadAt 59 (.pointer (some (a_19.add (Int.toNat 1))))) rfl rfl rfl (by kernel_rfl) (rn_load (by kernel_rfl) hx15) ?_
      refine y_gyes rfl rfl rfl ?_
      obtain ⟨a_21, hx16, h⟩ := h
      refine y_k (.pointer (some a_21) : Value) w_14 rfl rfl rfl (run_nilCheck hx16 rfl) ?_
      refine y_gyes rfl rfl rfl ?_
      refine y_k (.pointer (some a_21) : Value) w_14 rfl rfl rfl (by kernel_rfl) ?_
      refine y_gyes rfl rfl rfl ?_
      obtain ⟨t36_22, hx17, h⟩ := h
      refine y_v (s := Instr.loadAt 60 (.pointer (some a_21))) rfl rfl rfl (by kernel_rfl) (rn_load (by kernel_rfl) hx17) ?_
      refine y_gyes rfl rfl rfl ?_
      refine y_v (v := (.bool t36_22.isNone : Value)) (s := do eqGuard .eql 60 (Operand.tmp 36) (Operand.const (Value.pointer none)) (.pointer t36_22 : Value) (.pointer none : Value); binOp .eql 60 (.pointer t36_22 : Value) (.pointer none : Value)) rfl rfl rfl (by kernel_rfl) (run_eql_ptrnil (by kernel_rfl)) ?_
      refine y_k (.bool t36_22.isNone : Value) w_14 rfl rfl rfl (by kernel_rfl) ?_
      refine y_nil ?_
      refine y_then (hK5 _ _ ?_)
      refine y_cond (t36_22.isNone) rfl rfl (fun hb57 => ?_) (fun hb57 => ?_)
      · replace h := h.1 (hb57)
        refine y_seq fun K18 hK18 => ?_
        refine y_region ?_
        refine y_k (.bool false : Value) w_14 rfl rfl rfl (by kernel_rfl) ?_
        refine y_nil ?_
        refine y_then (hK18 _ _ ?_)
        refine y_ret ?_
        repeat (first | refine e_then_r ?_ | refine e_block_r ?_)
        exact (hQ0 _ _ _ (res1 (v := (.bool false : Value)) rfl rfl rfl) ⟨_, rfl, h⟩).1
      · replace h := h.2 (hb57)
        refine y_skip ?_
        refine y_then (hK4 _ _ ?_)
        refine y_seq fun K19 hK19 => ?_
        refine y_seq fun K20 hK20 => ?_
        refine y_region ?_
        refine y_k (.int .i64 0 : Value) w_14 rfl rfl rfl (by kernel_rfl) ?_
        refine y_nil ?_
        refine y_then (hK20 _ _ ?_)
        refine y_block ?_
        refine y_loop (S := Int) (fun s j => match s with | (i5_23) => upd (upd (upd (j) 0 (.slice script0_1.a script0_1.n script0_1.c : Value)) 4 (.slice (some ⟨w_13.heap.size, 0, none⟩) 2 2 : Value)) 5 (.int .i64 i5_23 : Value)) (0) ?_ h ?_
        · dsimp only
          refine upd_id ?_ rfl
          refine upd_id ?_ rfl
          refine upd_id ?_ rfl
          rfl
        rintro KN23 next22 hN23 i5_23 j w_24 h
        unfold F7_l1 at h
        refine y_seq fun K24 hK24 => ?_
        refine y_seq fun K25 hK25 => ?_
        refine y_region ?_
        refine y_k (.int .i64 i5_23 : Value) w_24 rfl rfl rfl (by kernel_rfl) ?_
        refine y_k (.slice script0_1.a script0_1.n script0_1.c : Value) w_24 rfl rfl rfl (by kernel_rfl) ?_
        refine y_k (.int .i64 ((script0_1.n : Int)) : Value) w_24 rfl rfl rfl (by kernel_rfl) ?_
        refine y_k (.bool (decide (i5_23 < ((script0_1.n : Int)))) : Value) w_24 rfl rfl rfl (by kernel_rfl) ?_
        refine y_k (.bool (decide (i5_23 < ((script0_1.n : Int)))) : Value) w_24 rfl rfl rfl (by kernel_rfl) ?_
        refine y_fork (decide (i5_23 < ((script0_1.n : Int)))) (fun hb26 => ?_) (fun hb26 => ?_)
        · replace h := h.1 (of_decide_eq_true hb26)
          refine y_frame (upd_id (i := 43) (v := .bool true) rfl (congrArg Value.bool hb26)) ?_
          refine y_gyes rfl rfl rfl ?_
          refine y_k (.int .i64 i5_23 : Value) w_24 rfl rfl rfl (by kernel_rfl) ?_
          refine y_gyes rfl rfl rfl ?_
          refine y_k (.bool (decide (i5_23 < 1000)) : Value) w_24 rfl rfl rfl (by kernel_rfl) ?_
          refine y_k (.bool (decide (i5_23 < 1000)) : Value) w_24 rfl rfl rfl (by kernel_rfl) ?_
          refine y_nil ?_
          refine y_then (hK25 _ _ ?_)
          refine y_cond (decide (i5_23 < 1000)) rfl rfl (fun hb48 => ?_) (fun hb48 => ?_)
          · replace h := h.1 (of_decide_eq_true hb48)
            refine y_skip ?_
            refine y_then (hK24 _ _ ?_)
            refine y_seq fun K27 hK27 => ?_
            refine y_block ?_
            refine y_seq fun K29 hK29 => ?_
            obtain ⟨w_25, hwd30⟩ : ∃ wd : World, wd = w_24.drew := ⟨_, rfl⟩
            replace h := h _ hwd30
            refine t_region (wd := w_25) [] (by kernel_rfl) hwd30 SF_nil fun Q30 hE30 hp30 hS => ?_
            clear hwd30
            refine t_kw hp30 hS 0 (.slice (some ⟨w_13.heap.size, 0, none⟩) 2 2 : Value) rfl (wanted_none rfl) rfl rfl (by kernel_rfl) (fun _ _ => by kernel_rfl) fun hS => ?_
            refine t_kw hp30 hS 1 (.slice script0_1.a script0_1.n script0_1.c : Value) rfl (wanted_none rfl) rfl rfl (by kernel_rfl) (fun _ _ => by kernel_rfl) fun hS => ?_
            refine t_kw hp30 hS 2 (.int .i64 i5_23 : Value) rfl (wanted_none rfl) rfl rfl (by kernel_rfl) (fun _ _ => by kernel_rfl) fun hS => ?_
            obtain ⟨hx31a, hx31b, a_26, hx31, h⟩ := h
            refine t_v (s := Instr.indexAt 58 (.slice script0_1.a script0_1.n script0_1.c : Value) (.int .i64 i5_23 : Value)) hp30 hS 3 (.pointer (some (a_26.add (Int.toNat i5_23 * 4))) : Value) rfl (wanted_none rfl) rfl rfl (by kernel_rfl) (by kernel_rfl) (fun _ _ => run_ixs (el := 68) (by kernel_rfl) (by kernel_rfl) hx31 hx31a hx31b) fun hS => ?_
            refine t_kw hp30 hS 4 (.pointer (some ((a_26.add (Int.toNat i5_23 * 4)).add 1)) : Value) rfl (wanted_none rfl) rfl rfl (by kernel_rfl) (fun _ _ => by kernel_rfl) fun hS => ?_
            obtain ⟨t54_27, hx32, h⟩ := h
            refine t_add ⟨5, [13], fun wx => wx.cell? ((a_26.add (Int.toNat i5_23 * 4)).add 1) = some (.int .i64 t54_27)⟩ ?_
            replace hS := SF_on (x := ⟨5, [13], fun wx => wx.cell? ((a_26.add (Int.toNat i5_23 * 4)).add 1) = some (.int .i64 t54_27)⟩) hx32 hS
            refine t_v (s := Instr.loadAt 3 (.pointer (some ((a_26.add (Int.toNat i5_23 * 4)).add 1)))) hp30 hS 5 (.int .i64 t54_27 : Value) rfl (wanted_none rfl) rfl rfl (by kernel_rfl) (by kernel_rfl) (fun _ hw => rn_load (by kernel_rfl) (Sw.fact (List.Mem.head _) rfl hw)) fun hS => ?_
            refine t_kw hp30 hS 6 (.int .i64 (ibits .and .i64 t54_27 1) : Value) rfl (wanted_none rfl) rfl rfl (by kernel_rfl) (fun _ _ => by kernel_rfl) fun hS => ?_
            obtain ⟨hx33a, hx33b, a_28, hx33, h⟩ := h
            refine t_v (s := Instr.indexAt 66 (.slice (some ⟨w_13.heap.size, 0, none⟩) 2 2 : Value) (.int .i64 (ibits .and .i64 t54_27 1) : Value)) hp30 hS 7 (.pointer (some (a_28.add (Int.toNat (ibits .and .i64 t54_27 1)))) : Value) rfl (wanted_none rfl) rfl rfl (by kernel_rfl) (by kernel_rfl) (fun _ _ => run_ixs1 (el := 59) (by kernel_rfl) (by kernel_rfl) hx33 hx33a hx33b) fun hS => ?_
            obtain ⟨t57_29, hx34, h⟩ := h
            refine t_add ⟨8, [13], fun wx => wx.cell? (a_28.add (Int.toNat (ibits .and .i64 t54_27 1))) = some (.pointer t57_29)⟩ ?_
            replace hS := SF_on (x := ⟨8, [13], fun wx => wx.cell? (a_28.add (Int.toNat (ibits .and .i64 t54_27 1))) = some (.pointer t57_29)⟩) hx34 hS
            refine t_v (s := Instr.loadAt 59 (.pointer (some (a_28.add (Int.toNat (ibits .and .i64 t54_27 1)))))) hp30 hS 8 (.pointer t57_29 : Value) rfl (wanted_none rfl) rfl rfl (by kernel_rfl) (by kernel_rfl) (fun _ hw => rn_load (by kernel_rfl) (Sw.fact (List.Mem.head _) rfl hw)) fun hS => ?_
            refine t_kw hp30 hS 9 (.slice script0_1.a script0_1.n script0_1.c : Value) rfl (wanted_none rfl) rfl rfl (by kernel_rfl) (fun _ _ => by kernel_rfl) fun hS => ?_
            refine t_kw hp30 hS 10 (.int .i64 i5_23 : Value) rfl (wanted_none rfl) rfl rfl (by kernel_rfl) (fun _ _ => by kernel_rfl) fun hS => ?_
            obtain ⟨hx35a, hx35b, a_30, hx35, h⟩ := h
            refine t_v (s := Instr.indexAt 58 (.slice script0_1.a script0_1.n script0_1.c : Value) (.int .i64 i5_23 : Value)) hp30 hS 11 (.pointer (some (a_30.add (Int.toNat i5_23 * 4))) : Value) rfl (wanted_none rfl) rfl rfl (by kernel_rfl) (by kernel_rfl) (fun _ _ => run_ixs (el := 68) (by kernel_rfl) (by kernel_rfl) hx35 hx35a hx35b) fun hS => ?_
            obtain ⟨t61_31, t61_32, t61_33, t61_34, hx36, h⟩ := h
            refine t_add ⟨12, [13], fun wx => CellsAt wx (a_30.add (Int.toNat i5_23 * 4)) 0 [.int .i64 t61_31, .int .i64 t61_32, .int .u64 t61_33, .int .i64 t61_34]⟩ ?_
            replace hS := SF_on (x := ⟨12, [13], fun wx => CellsAt wx (a_30.add (Int.toNat i5_23 * 4)) 0 [.int .i64 t61_31, .int .i64 t61_32, .int .u64 t61_33, .int .i64 t61_34]⟩) hx36 hS
            refine t_v (s := Instr.loadAt 68 (.pointer (some (a_30.add (Int.toNat i5_23 * 4))))) hp30 hS 12 (.agg #[.int .i64 t61_31, .int .i64 t61_32, .int .u64 t61_33, .int .i64 t61_34] : Value) rfl (wanted_none rfl) rfl rfl (by kernel_rfl) (by kernel_rfl) (fun _ hw => rn_loadcells (k := 4) ⟨by kernel_rfl, by kernel_rfl⟩ rfl (Sw.fact (List.Mem.head _) rfl hw)) fun hS => ?_
            refine t_call 13 (by kernel_rfl) rfl (wanted_none rfl) rfl rfl (by kernel_rfl) (h.mono ?_)
            rintro _ w_36 ⟨t62_35, rfl, h⟩
            refine ⟨_, rfl, (SF_off (by kernel_rfl) (by kernel_rfl) (SF_off (by kernel_rfl) (by kernel_rfl) (SF_off (by kernel_rfl) (by kernel_rfl) SF_nil))), fun hS => ?_⟩
            refine t_kw hp30 hS 14 (.bool t62_35 : Value) rfl (wanted_none rfl) rfl rfl (by kernel_rfl) (fun _ _ => by kernel_rfl) fun hS => ?_
            refine t_done (by kernel_rfl) (hE30 _ _ ?_)
            refine y_then (hK29 _ _ ?_)
            refine y_seq fun K37 hK37 => ?_
            refine y_region ?_
            refine y_k (.bool t62_35 : Value) w_36 rfl rfl rfl (by kernel_rfl) ?_
            refine y_k (.bool (!(t62_35)) : Value) w_36 rfl rfl rfl (by kernel_rfl) ?_
            refine y_nil ?_
            refine y_then (hK37 _ _ ?_)
            refine y_cond (!(t62_35)) rfl rfl (fun hb39 => ?_) (fun hb39 => ?_)
            · replace h := h.1 ((not_true_of hb39))
              refine y_seq fun K38 hK38 => ?_
              refine y_region ?_
              refine y_k (.bool false : Value) w_36 rfl rfl rfl (by kernel_rfl) ?_
              refine y_nil ?_
              refine y_then (hK38 _ _ ?_)
              refine y_ret ?_
              repeat (first | refine e_then_r ?_ | refine e_block_r ?_)
              exact (hQ0 _ _ _ (res1 (v := (.bool false : Value)) rfl rfl rfl) ⟨_, rfl, h⟩).1
            · replace h := h.2 ((not_false_of hb39))
              refine y_skip ?_
              refine e_block_n ?_
              refine y_then (hK27 _ _ ?_)
              refine y_region ?_
              refine y_k (.int .i64 i5_23 : Value) w_36 rfl rfl rfl (by kernel_rfl) ?_
              refine y_k (.int .i64 (IntKind.i64.wrap (i5_23 + 1)) : Value) w_36 rfl rfl rfl (by kernel_rfl) ?_
              refine y_k (.int .i64 (IntKind.i64.wrap (i5_23 + 1)) : Value) w_36 rfl rfl rfl (by kernel_rfl) ?_
              refine y_nil ?_
              refine y_then (hN23 (IntKind.i64.wrap (i5_23 + 1)) _ _ h ?_)
              dsimp only
              refine upd_id ?_ rfl
              refine upd_id ?_ rfl
              refine upd_id ?_ rfl
              rfl
          · replace h := h.2 (of_decide_eq_false hb48)
            refine y_exit ?_
            repeat (first | refine e_then_x ?_ | refine e_block_y rfl ?_)
            refine e_block_x ?_
            refine y_then (hK19 _ _ ?_)
            refine y_seq fun K40 hK40 => ?_
            refine y_region ?_
            refine y_k (.slice (some ⟨w_13.heap.size, 0, none⟩) 2 2 : Value) w_24 rfl rfl rfl (by kernel_rfl) ?_
            obtain ⟨hx41a, hx41b, a_37, hx41, h⟩ := h
            refine y_v (v := (.pointer (some (a_37.add (Int.toNat 0))) : Value)) (s := Instr.indexAt 66 (.slice (some ⟨w_13.heap.size, 0, none⟩) 2 2 : Value) (.int .i64 0 : Value)) rfl rfl rfl (by kernel_rfl) (run_ixs1 (el := 59) (by kernel_rfl) (by kernel_rfl) hx41 hx41a hx41b) ?_
            obtain ⟨t67_38, hx42, h⟩ := h
            refine y_v (s := Instr.loadAt 59 (.pointer (some (a_37.add (Int.toNat 0))))) rfl rfl rfl (by kernel_rfl) (rn_load (by kernel_rfl) hx42) ?_
            refine y_call rfl rfl rfl (by kernel_rfl) (h.mono ?_)
            rintro _ w_40 ⟨t68_39, rfl, h⟩
            refine ⟨_, rfl, ?_⟩
            refine y_k (.bool t68_39 : Value) w_40 rfl rfl rfl (by kernel_rfl) ?_
            refine y_nil ?_
            refine y_then (hK40 _ _ ?_)
            refine y_seq fun K43 hK43 => ?_
            refine y_region ?_
            refine y_k (.slice (some ⟨w_13.heap.size, 0, none⟩) 2 2 : Value) w_40 rfl rfl rfl (by kernel_rfl) ?_
            obtain ⟨hx44a, hx44b, a_41, hx44, h⟩ := h
            refine y_v (v := (.pointer (some (a_41.add (Int.toNat 1))) : Value)) (s := Instr.indexAt 66 (.slice (some ⟨w_13.heap.size, 0, none⟩) 2 2 : Value) (.int .i64 1 : Value)) rfl rfl rfl (by kernel_rfl) (run_ixs1 (el := 59) (by kernel_rfl) (by kernel_rfl) hx44 hx44a hx44b) ?_
            obtain ⟨t71_42, hx45, h⟩ := h
            refine y_v (s := Instr.loadAt 59 (.pointer (some (a_41.add (Int.toNat 1))))) rfl rfl rfl (by kernel_rfl) (rn_load (by kernel_rfl) hx45) ?_
            refine y_call rfl rfl rfl (by kernel_rfl) (h.mono ?_)
            rintro _ w_44 ⟨t72_43, rfl, h⟩
            refine ⟨_, rfl, ?_⟩
            refine y_k (.bool t72_43 : Value) w_44 rfl rfl rfl (by kernel_rfl) ?_
            refine y_nil ?_
            refine y_then (hK43 _ _ ?_)
            refine y_seq fun K46 hK46 => ?_
            have hjK46 : ∀ (f : Fr) (t2_45 : Bool) (w_46 : World), f 2 = (.bool t2_45 : Value) → F7_j2 K t2_45 w_46 → WK K46 77 f w_46 := by
              intro f t2_45 w_46 e2 h
              refine y_atf (upd_id rfl e2) ?_
              clear e2
              unfold F7_j2 at h
              refine hK46 _ _ ?_
              refine y_ret ?_
              repeat (first | refine e_then_r ?_ | refine e_block_r ?_)
              exact (hQ0 _ _ _ (res1 (v := (.bool t2_45 : Value)) rfl rfl rfl) ⟨_, rfl, h⟩).1
            refine y_region ?_
            refine y_k (.bool t68_39 : Value) w_44 rfl rfl rfl (by kernel_rfl) ?_
            refine y_k (.bool t68_39 : Value) w_44 rfl rfl rfl (by kernel_rfl) ?_
            refine y_fork (t68_39) (fun hb47 => ?_) (fun hb47 => ?_)
            · replace h := h.1 (hb47)
              refine y_frame (upd_id (i := 74) (v := .bool true) rfl (congrArg Value.bool hb47)) ?_
              refine y_gyes rfl rfl rfl ?_
              refine y_k (.bool t72_43 : Value) w_44 rfl rfl rfl (by kernel_rfl) ?_
              refine y_k (.bool t72_43 : Value) w_44 rfl rfl rfl (by kernel_rfl) ?_
              refine y_k (.bool t72_43 : Value) w_44 rfl rfl rfl (by kernel_rfl) ?_
              refine y_nil ?_
              exact y_then (hjK46 _ t72_43 w_44 rfl h)
            · replace h := h.2 (hb47)
              refine y_frame (upd_id (i := 74) (v := .bool false) rfl (congrArg Value.bool hb47)) ?_
              refine y_gno rfl rfl rfl rfl ?_
              refine y_k (.bool false : Value) w_44 rfl rfl rfl (by kernel_rfl) ?_
              refine y_k (.bool false : Value) w_44 rfl rfl rfl (by kernel_rfl) ?_
              refine y_nil ?_
              exact y_then (hjK46 _ false w_44 rfl h)
        · replace h := h.2 (of_decide_eq_false hb26)
          refine y_frame (upd_id (i := 43) (v := .bool false) rfl (congrArg Value.bool hb26)) ?_
          refine y_gno rfl rfl rfl rfl ?_
          refine y_gno rfl rfl rfl rfl ?_
          refine y_k (.bool false : Value) w_24 rfl rfl rfl (by kernel_rfl) ?_
          refine y_nil ?_
          refine y_then (hK25 _ _ ?_)
          refine y_cond_f rfl rfl ?_
          refine y_exit ?_
          repeat (first | refine e_then_x ?_ | refine e_block_y rfl ?_)
          refine e_block_x ?_
          refine y_then (hK19 _ _ ?_)
          refine y_seq fun K49 hK49 => ?_
          refine y_region ?_
          refine y_k (.slice (some ⟨w_13.heap.size, 0, none⟩) 2 2 : Value) w_24 rfl rfl rfl (by kernel_rfl) ?_
          obtain ⟨hx50a, hx50b, a_47, hx50, h⟩ := h
          refine y_v (v := (.pointer (some (a_47.add (Int.toNat 0))) : Value)) (s := Instr.indexAt 66 (.slice (some ⟨w_13.heap.size, 0, none⟩) 2 2 : Value) (.int .i64 0 : Value)) rfl rfl rfl (by kernel_rfl) (run_ixs1 (el := 59) (by kernel_rfl) (by kernel_rfl) hx50 hx50a hx50b) ?_
          obtain ⟨t67_48, hx51, h⟩ := h
          refine y_v (s := Instr.loadAt 59 (.pointer (some (a_47.add (Int.toNat 0))))) rfl rfl rfl (by kernel_rfl) (rn_load (by kernel_rfl) hx51) ?_
          refine y_call rfl rfl rfl (by kernel_rfl) (h.mono ?_)
          rintro _ w_50 ⟨t68_49, rfl, h⟩
          refine ⟨_, rfl, ?_⟩
          refine y_k (.bool t68_49 : Value) w_50 rfl rfl rfl (by kernel_rfl) ?_
          refine y_nil ?_
          refine y_then (hK49 _ _ ?_)
          refine y_seq fun K52 hK52 => ?_
          refine y_region ?_
          refine y_k (.slice (some ⟨w_13.heap.size, 0, none⟩) 2 2 : Value) w_50 rfl rfl rfl (by kernel_rfl) ?_
          obtain ⟨hx53a, hx53b, a_51, hx53, h⟩ := h
          refine y_v (v := (.pointer (some (a_51.add (Int.toNat 1))) : Value)) (s := Instr.indexAt 66 (.slice (some ⟨w_13.heap.size, 0, none⟩) 2 2 : Value) (.int .i64 1 : Value)) rfl rfl rfl (by kernel_rfl) (run_ixs1 (el := 59) (by kernel_rfl) (by kernel_rfl) hx53 hx53a hx53b) ?_
          obtain ⟨t71_52, hx54, h⟩ := h
          refine y_v (s := Instr.loadAt 59 (.pointer (some (a_51.add (Int.toNat 1))))) rfl rfl rfl (by kernel_rfl) (rn_load (by kernel_rfl) hx54) ?_
          refine y_call rfl rfl rfl (by kernel_rfl) (h.mono ?_)
          rintro _ w_54 ⟨t72_53, rfl, h⟩
          refine ⟨_, rfl, ?_⟩
          refine y_k (.bool t72_53 : Value) w_54 rfl rfl rfl (by kernel_rfl) ?_
          refine y_nil ?_
          refine y_then (hK52 _ _ ?_)
          refine y_seq fun K55 hK55 => ?_
          have hjK55 : ∀ (f : Fr) (t2_55 : Bool) (w_56 : World), f 2 = (.bool t2_55 : Value) → F7_j3 K t2_55 w_56 → WK K55 77 f w_56 := by
            intro f t2_55 w_56 e2 h
            refine y_atf (upd_id rfl e2) ?_
            clear e2
            unfold F7_j3 at h
            refine hK55 _ _ ?_
            refine y_ret ?_
            repeat (first | refine e_then_r ?_ | refine e_block_r ?_)
            exact (hQ0 _ _ _ (res1 (v := (.bool t2_55 : Value)) rfl rfl rfl) ⟨_, rfl, h⟩).1
          refine y_region ?_
          refine y_k (.bool t68_49 : Value) w_54 rfl rfl rfl (by kernel_rfl) ?_
          refine y_k (.bool t68_49 : Value) w_54 rfl rfl rfl (by kernel_rfl) ?_
          refine y_fork (t68_49) (fun hb56 => ?_) (fun hb56 => ?_)
          · replace h := h.1 (hb56)
            refine y_frame (upd_id (i := 74) (v := .bool true) rfl (congrArg Value.bool hb56)) ?_
            refine y_gyes rfl rfl rfl ?_
            refine y_k (.bool t72_53 : Value) w_54 rfl rfl rfl (by kernel_rfl) ?_
            refine y_k (.bool t72_53 : Value) w_54 rfl rfl rfl (by kernel_rfl) ?_
            refine y_k (.bool t72_53 : Value) w_54 rfl rfl rfl (by kernel_rfl) ?_
            refine y_nil ?_
            exact y_then (hjK55 _ t72_53 w_54 rfl h)
          · replace h := h.2 (hb56)
            refine y_frame (upd_id (i := 74) (v := .bool false) rfl (congrArg Value.bool hb56)) ?_
            refine y_gno rfl rfl rfl rfl ?_
            refine y_k (.bool false : Value) w_54 rfl rfl rfl (by kernel_rfl) ?_
            refine y_k (.bool false : Value) w_54 rfl rfl rfl (by kernel_rfl) ?_
            refine y_nil ?_
            exact y_then (hjK55 _ false w_54 rfl h)

end Go.Proofs.Ythhcaaellhdkiaa
