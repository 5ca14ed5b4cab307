/- Printed by gen.py (own program, wip/): for each Go function a predicate transformer and its soundness. -/
import Derived.Test.YthhcaaellhdkiaaProg
import Derived.Test.YthhcaaellhdkiaaST
namespace Go.Proofs.Ythhcaaellhdkiaa
open Go Go.RowKit Go.Proofs.Ythhcaaellhdkiaa.SX
set_option linter.unusedVariables false

def F11_l1 (script0_1 : Sl) (K : Bool → World → Prop) (w_11 : World) (next18 : (Int) → World → Prop) : (Int) → World → Prop := fun (i5_17) w_18 =>
  ((i5_17 < ((script0_1.n : Int)) →
  ((i5_17 < 2000 →
  (0 : Int) ≤ i5_17 ∧ i5_17 < (script0_1.n : Int) ∧ ∃ (a_19 : Addr), script0_1.a = some a_19 ∧
  ∃ (t48_20 : Int), ∃ (t48_21 : Int), ∃ (t48_22 : ByteArray), ∃ (t48_23 : Int), ∃ (t48_24 : Int), ∃ (t48_25 : Int), ∃ (t48_26 : Int), ∃ (t48_27 : Int), ∃ (t48_28 : Int), ∃ (t48_29 : Int), ∃ (t48_30 : Int), CellsAt w_18 (a_19.add (Int.toNat i5_17 * 11)) 0 [.int .i64 t48_20, .int .i64 t48_21, .string t48_22, .int .i64 t48_23, .int .i64 t48_24, .int .i64 t48_25, .int .i64 t48_26, .int .i64 t48_27, .int .i64 t48_28, .int .i64 t48_29, .int .i64 t48_30] ∧
  ∀ (w_31 : World), w_31 = w_18.alloc (.cells #[.int .i64 0, .int .i64 0, .string ByteArray.empty, .int .i64 0, .int .i64 0, .int .i64 0, .int .i64 0, .int .i64 0, .int .i64 0, .int .i64 0, .int .i64 0] 89) →
  HasCells w_31 (⟨w_18.heap.size, 0, none⟩ : Addr) 0 11 ∧ ∀ (w_32 : World), w_32 = setCells w_31 (⟨w_18.heap.size, 0, none⟩ : Addr) 0 [.int .i64 t48_20, .int .i64 t48_21, .string t48_22, .int .i64 t48_23, .int .i64 t48_24, .int .i64 t48_25, .int .i64 t48_26, .int .i64 t48_27, .int .i64 t48_28, .int .i64 t48_29, .int .i64 t48_30] →
  ∃ (t50_33 : Int), w_32.cell? ((⟨w_18.heap.size, 0, none⟩ : Addr).add 1) = some (.int .i64 t50_33) ∧
  ∀ (w_34 : World), w_34 = w_32.drew →
  (0 : Int) ≤ (ibits .and .i64 t50_33 1) ∧ (ibits .and .i64 t50_33 1) < (2 : Int) ∧ ∃ (a_35 : Addr), some ⟨w_11.heap.size, 0, none⟩ = some a_35 ∧
  ∃ (t55_36 : Option Addr), ∃ (t55_37 : Option Addr), CellsAt w_34 (a_35.add (Int.toNat (ibits .and .i64 t50_33 1) * 2)) 0 [.pointer t55_36, .pointer t55_37] ∧
  ∃ (t56_38 : Int), ∃ (t56_39 : Int), ∃ (t56_40 : ByteArray), ∃ (t56_41 : Int), ∃ (t56_42 : Int), ∃ (t56_43 : Int), ∃ (t56_44 : Int), ∃ (t56_45 : Int), ∃ (t56_46 : Int), ∃ (t56_47 : Int), ∃ (t56_48 : Int), CellsAt w_34 (⟨w_18.heap.size, 0, none⟩ : Addr) 0 [.int .i64 t56_38, .int .i64 t56_39, .string t56_40, .int .i64 t56_41, .int .i64 t56_42, .int .i64 t56_43, .int .i64 t56_44, .int .i64 t56_45, .int .i64 t56_46, .int .i64 t56_47, .int .i64 t56_48] ∧
  (0 : Int) ≤ (IntKind.i64.wrap (1 - (ibits .and .i64 t50_33 1))) ∧ (IntKind.i64.wrap (1 - (ibits .and .i64 t50_33 1))) < (2 : Int) ∧ ∃ (a_49 : Addr), some ⟨w_11.heap.size, 0, none⟩ = some a_49 ∧
  ∃ (t61_50 : Option Addr), ∃ (t61_51 : Option Addr), CellsAt w_34 (a_49.add (Int.toNat (IntKind.i64.wrap (1 - (ibits .and .i64 t50_33 1))) * 2)) 0 [.pointer t61_50, .pointer t61_51] ∧
  Calls Try.prog 51 #[.agg #[.pointer t55_36, .pointer t55_37], .agg #[.int .i64 t56_38, .int .i64 t56_39, .string t56_40, .int .i64 t56_41, .int .i64 t56_42, .int .i64 t56_43, .int .i64 t56_44, .int .i64 t56_45, .int .i64 t56_46, .int .i64 t56_47, .int .i64 t56_48], .agg #[.pointer t61_50, .pointer t61_51]] w_34 fun e w_53 => ∃ (t62_52 : Bool), e = .returned (.bool t62_52 : Value) ∧ 
  ∀ (w_54 : World), w_54 = w_53.drew →
  (0 : Int) ≤ 0 ∧ 0 < (2 : Int) ∧ ∃ (a_55 : Addr), some ⟨w_11.heap.size, 0, none⟩ = some a_55 ∧
  ∃ (t65_56 : Option Addr), ∃ (t65_57 : Option Addr), CellsAt w_54 (a_55.add (Int.toNat 0 * 2)) 0 [.pointer t65_56, .pointer t65_57] ∧
  ∃ (t67_58 : ByteArray), w_54.cell? ((⟨w_18.heap.size, 0, none⟩ : Addr).add 2) = some (.string t67_58) ∧
  ∃ (t69_59 : Int), w_54.cell? ((⟨w_18.heap.size, 0, none⟩ : Addr).add 3) = some (.int .i64 t69_59) ∧
  Calls Try.prog 52 #[.agg #[.pointer t65_56, .pointer t65_57], .string t67_58, .int .i64 t69_59] w_54 fun e w_61 => ∃ (t70_60 : Bool), e = .returned (.bool t70_60 : Value) ∧ 
  ∀ (w_62 : World), w_62 = w_61.drew →
  (0 : Int) ≤ 1 ∧ 1 < (2 : Int) ∧ ∃ (a_63 : Addr), some ⟨w_11.heap.size, 0, none⟩ = some a_63 ∧
  ∃ (t73_64 : Option Addr), ∃ (t73_65 : Option Addr), CellsAt w_62 (a_63.add (Int.toNat 1 * 2)) 0 [.pointer t73_64, .pointer t73_65] ∧
  ∃ (t75_66 : ByteArray), w_62.cell? ((⟨w_18.heap.size, 0, none⟩ : Addr).add 2) = some (.string t75_66) ∧
  ∃ (t77_67 : Int), w_62.cell? ((⟨w_18.heap.size, 0, none⟩ : Addr).add 3) = some (.int .i64 t77_67) ∧
  Calls Try.prog 52 #[.agg #[.pointer t73_64, .pointer t73_65], .string t75_66, .int .i64 t77_67] w_62 fun e w_69 => ∃ (t78_68 : Bool), e = .returned (.bool t78_68 : Value) ∧ 
  ((t62_52 = false →
  K false w_69) ∧
  (t62_52 = true →
  ((t70_60 = false →
  K false w_69) ∧
  (t70_60 = true →
  ((t78_68 = false →
  K false w_69) ∧
  (t78_68 = true →
  next18 (IntKind.i64.wrap (i5_17 + 1)) w_69))))))) ∧
  (¬ (i5_17 < 2000) →
  K true w_18))) ∧
  (¬ (i5_17 < ((script0_1.n : Int))) →
  K true w_18))
/-- turnkey/turnkeylaw15.QuotaPlays -/
def F11 (script0_1 : Sl) (K : Bool → World → Prop) (w : World) : Prop :=
  Calls Try.prog 27 #[] w fun e w_3 => ∃ (t11_2 : Bool), e = .returned (.bool t11_2 : Value) ∧
  Calls Try.prog 28 #[] w_3 fun e w_5 => ∃ (t12_4 : Option Addr), e = .returned (.pointer t12_4 : Value) ∧
  Calls Try.prog 50 #[] w_5 fun e w_7 => ∃ (t13_6 : Option Addr), e = .returned (.pointer t13_6 : Value) ∧
  Calls Try.prog 28 #[] w_7 fun e w_9 => ∃ (t15_8 : Option Addr), e = .returned (.pointer t15_8 : Value) ∧
  Calls Try.prog 50 #[] w_9 fun e w_11 => ∃ (t16_10 : Option Addr), e = .returned (.pointer t16_10 : Value) ∧
  ∀ (w_12 : World), w_12 = w_11.alloc (.cells #[.pointer t12_4, .pointer t13_6, .pointer t15_8, .pointer t16_10] 98) →
  ((t11_2 = false →
  K false w_12) ∧
  (t11_2 = true →
  (0 : Int) ≤ 0 ∧ 0 < (2 : Int) ∧ ∃ (a_13 : Addr), some ⟨w_11.heap.size, 0, none⟩ = some a_13 ∧
  ∃ (t25_14 : Option Addr), w_12.cell? (a_13.add (Int.toNat 0 * 2)) = some (.pointer t25_14) ∧
  ((t25_14.isNone = true →
  K false w_12) ∧
  (t25_14.isNone = false →
  (0 : Int) ≤ 1 ∧ 1 < (2 : Int) ∧ ∃ (a_15 : Addr), some ⟨w_11.heap.size, 0, none⟩ = some a_15 ∧
  ∃ (t32_16 : Option Addr), w_12.cell? (a_15.add (Int.toNat 1 * 2)) = some (.pointer t32_16) ∧
  ((t32_16.isNone = true →
  K false w_12) ∧
  (t32_16.isNone = false →
  kLoop (F11_l1 script0_1 K w_11) (0) w_12))))))
set_option maxHeartbeats 4000000 in
set_option maxRecDepth 20000 in
theorem F11_sound (script0_1 : Sl) (K : Bool → World → Prop) (w : World) (h : F11 script0_1 K w) :
    Calls Try.prog 11 #[.slice script0_1.a script0_1.n script0_1.c] w (fun e w1 => ∃ (r0 : Bool), e = .returned (.bool r0 : Value) ∧ K r0 w1) := by
  unfold F11 at h
  refine y_enter (n := 89) (args := [.slice script0_1.a script0_1.n script0_1.c]) Try.func11 rfl rfl rfl fun Q0 hQ0 => ?_
  refine y_seq fun K1 hK1 => ?_
  refine y_region ?_
  refine y_k (.bool false : Value) w rfl rfl rfl (by kernel_rfl) ?_
  refine y_nil ?_
  refine y_then (hK1 _ _ ?_)
  refine y_seq fun K2 hK2 => ?_
  refine y_region ?_
  refine y_call rfl rfl rfl (by kernel_rfl) (h.mono ?_)
  rintro _ w_3 ⟨t11_2, rfl, h⟩
  refine ⟨_, rfl, ?_⟩
  refine y_k (.bool t11_2 : Value) w_3 rfl rfl rfl (by kernel_rfl) ?_
  refine y_nil ?_
  refine y_then (hK2 _ _ ?_)
  refine y_seq fun K3 hK3 => ?_
  refine y_region ?_
  refine y_call rfl rfl rfl (by kernel_rfl) (h.mono ?_)
  rintro _ w_5 ⟨t12_4, rfl, h⟩
  refine ⟨_, rfl, ?_⟩
  refine y_call rfl rfl rfl (by kernel_rfl) (h.mono ?_)
  rintro _ w_7 ⟨t13_6, rfl, h⟩
  refine ⟨_, rfl, ?_⟩
  refine y_k (.agg #[.pointer t12_4, .pointer t13_6] : Value) w_7 rfl rfl rfl (by kernel_rfl) ?_
  refine y_call rfl rfl rfl (by kernel_rfl) (h.mono ?_)
  rintro _ w_9 ⟨t15_8, rfl, h⟩
  refine ⟨_, rfl, ?_⟩
  refine y_call rfl rfl rfl (by kernel_rfl) (h.mono ?_)
  rintro _ w_11 ⟨t16_10, rfl, h⟩
  refine ⟨_, rfl, ?_⟩
  refine y_k (.agg #[.pointer t15_8, .pointer t16_10] : Value) w_11 rfl rfl rfl (by kernel_rfl) ?_
  refine y_k (.slice (some ⟨w_11.heap.size, 0, none⟩) 2 2 : Value) (w_11.alloc (.cells #[.pointer t12_4, .pointer t13_6, .pointer t15_8, .pointer t16_10] 98)) rfl rfl rfl (by kernel_rfl) ?_
  replace h := h _ rfl
  generalize w_11.alloc (.cells #[.pointer t12_4, .pointer t13_6, .pointer t15_8, .pointer t16_10] 98) = w_12 at h ⊢
  refine y_k (.slice (some ⟨w_11.heap.size, 0, none⟩) 2 2 : Value) w_12 rfl rfl rfl (by kernel_rfl) ?_
  refine y_nil ?_
  refine y_then (hK3 _ _ ?_)
  refine y_seq fun K4 hK4 => ?_
  refine y_seq fun K5 hK5 => ?_
  refine y_region ?_
  refine y_k (.bool t11_2 : Value) w_12 rfl rfl rfl (by kernel_rfl) ?_
  refine y_k (.bool (!(t11_2)) : Value) w_12 rfl rfl rfl (by kernel_rfl) ?_
  refine y_k (.bool (!(t11_2)) : Value) w_12 rfl rfl rfl (by kernel_rfl) ?_
  refine y_fork (!(t11_2)) (fun hb6 => ?_) (fun hb6 => ?_)
  · replace h := h.1 ((not_true_of hb6))
    refine y_frame (upd_id (i := 21) (v := .bool true) rfl (congrArg Value.bool hb6)) ?_
    refine y_gno rfl rfl rfl rfl ?_
    refine y_gno rfl rfl rfl rfl ?_
    refine y_gno rfl rfl rfl rfl ?_
    refine y_gno rfl rfl rfl rfl ?_
    refine y_gno rfl rfl rfl rfl ?_
    refine y_k (.bool true : Value) w_12 rfl rfl rfl (by kernel_rfl) ?_
    refine y_k (.bool true : Value) w_12 rfl rfl rfl (by kernel_rfl) ?_
    refine y_gno rfl rfl rfl rfl ?_
    refine y_gno rfl rfl rfl rfl ?_
    refine y_gno rfl rfl rfl rfl ?_
    refine y_gno rfl rfl rfl rfl ?_
    refine y_gno rfl rfl rfl rfl ?_
    refine y_k (.bool true : Value) w_12 rfl rfl rfl (by kernel_rfl) ?_
    refine y_nil ?_
    refine y_then (hK5 _ _ ?_)
    refine y_cond_t rfl rfl ?_
    refine y_seq fun K7 hK7 => ?_
    refine y_region ?_
    refine y_k (.bool false : Value) w_12 rfl rfl rfl (by kernel_rfl) ?_
    refine y_nil ?_
    refine y_then (hK7 _ _ ?_)
    refine y_ret ?_
    repeat (first | refine e_then_r ?_ | refine e_block_r ?_)
    exact (hQ0 _ _ _ (res1 (v := (.bool false : Value)) rfl rfl rfl) ⟨_, rfl, h⟩).1
  · replace h := h.2 ((not_false_of hb6))
    refine y_frame (upd_id (i := 21) (v := .bool false) rfl (congrArg Value.bool hb6)) ?_
    refine y_gyes rfl rfl rfl ?_
    refine y_k (.slice (some ⟨w_11.heap.size, 0, none⟩) 2 2 : Value) w_12 rfl rfl rfl (by kernel_rfl) ?_
    refine y_gyes rfl rfl rfl ?_
    obtain ⟨hx8a, hx8b, a_13, hx8, h⟩ := h
    refine y_v (v := (.pointer (some (a_13.add (Int.toNat 0 * 2))) : Value)) (s := Instr.indexAt 99 (.slice (some ⟨w_11.heap.size, 0, none⟩) 2 2 : Value) (.int .i64 0 : Value)) rfl rfl rfl (by kernel_rfl) (run_ixs (el := 98) (by kernel_rfl) (by kernel_rfl) hx8 hx8a hx8b) ?_
    refine y_gyes rfl rfl rfl ?_
    refine y_k (.pointer (some (a_13.add (Int.toNat 0 * 2))) : Value) w_12 rfl rfl rfl (by kernel_rfl) ?_
    refine y_gyes rfl rfl rfl ?_
    obtain ⟨t25_14, hx9, h⟩ := h
    refine y_v (s := Instr.loadAt 48 (.pointer (some (a_13.add (Int.toNat 0 * 2))))) rfl rfl rfl (by kernel_rfl) (rn_load (by kernel_rfl) hx9) ?_
    refine y_gyes rfl rfl rfl ?_
    refine y_v (v := (.bool t25_14.isNone : Value)) (s := do eqGuard .eql 48 (Operand.tmp 25) (Operand.const (Value.pointer none)) (.pointer t25_14 : Value) (.pointer none : Value); binOp .eql 48 (.pointer t25_14 : Value) (.pointer none : Value)) rfl rfl rfl (by kernel_rfl) (run_eql_ptrnil (by kernel_rfl)) ?_
    refine y_k (.bool t25_14.isNone : Value) w_12 rfl rfl rfl (by kernel_rfl) ?_
    refine y_k (.bool t25_14.isNone : Value) w_12 rfl rfl rfl (by kernel_rfl) ?_
    refine y_fork (t25_14.isNone) (fun hb10 => ?_) (fun hb10 => ?_)
    · replace h := h.1 (hb10)
      refine y_frame (upd_id (i := 28) (v := .bool true) rfl (congrArg Value.bool hb10)) ?_
      refine y_gno rfl rfl rfl rfl ?_
      refine y_gno rfl rfl rfl rfl ?_
      refine y_gno rfl rfl rfl rfl ?_
      refine y_gno rfl rfl rfl rfl ?_
      refine y_gno rfl rfl rfl rfl ?_
      refine y_k (.bool true : Value) w_12 rfl rfl rfl (by kernel_rfl) ?_
      refine y_nil ?_
      refine y_then (hK5 _ _ ?_)
      refine y_cond_t rfl rfl ?_
      refine y_seq fun K11 hK11 => ?_
      refine y_region ?_
      refine y_k (.bool false : Value) w_12 rfl rfl rfl (by kernel_rfl) ?_
      refine y_nil ?_
      refine y_then (hK11 _ _ ?_)
      refine y_ret ?_
      repeat (first | refine e_then_r ?_ | refine e_block_r ?_)
      exact (hQ0 _ _ _ (res1 (v := (.bool false : Value)) rfl rfl rfl) ⟨_, rfl, h⟩).1
    · replace h := h.2 (hb10)
      refine y_frame (upd_id (i := 28) (v := .bool false) rfl (congrArg Value.bool hb10)) ?_
      refine y_gyes rfl rfl rfl ?_
      refine y_k (.slice (some ⟨w_11.heap.size, 0, none⟩) 2 2 : Value) w_12 rfl rfl rfl (by kernel_rfl) ?_
      refine y_gyes rfl rfl rfl ?_
      obtain ⟨hx12a, hx12b, a_15, hx12, h⟩ := h
      refine y_v (v := (.pointer (some (a_15.add (Int.toNat 1 * 2))) : Value)) (s := Instr.indexAt 99 (.slice (some ⟨w_11.heap.size, 0, none⟩) 2 2 : Value) (.int .i64 1 : Value)) rfl rfl rfl (by kernel_rfl) (run_ixs (el := 98) (by kernel_rfl) (by kernel_rfl) hx12 hx12a hx12b) ?_
      refine y_gyes rfl rfl rfl ?_
      refine y_k (.pointer (some (a_15.add (Int.toNat 1 * 2))) : Value) w_12 rfl rfl rfl (by kernel_rfl) ?_
      refine y_gyes rfl rfl rfl ?_
      obtain ⟨t32_16, hx13, h⟩ := h
      refine y_v (s := Instr.loadAt 48 (.pointer (some (a_15.add (Int.toNat 1 * 2))))) rfl rfl rfl (by kernel_rfl) (rn_load (by kernel_rfl) hx13) ?_
      refine y_gyes rfl rfl rfl ?_
      refine y_v (v := (.bool t32_16.isNone : Value)) (s := do eqGuard .eql 48 (Operand.tmp 32) (Operand.const (Value.pointer none)) (.pointer t32_16 : Value) (.pointer none : Value); binOp .eql 48 (.pointer t32_16 : Value) (.pointer none : Value)) rfl rfl rfl (by kernel_rfl) (run_eql_ptrnil (by kernel_rfl)) ?_
      refine y_k (.bool t32_16.isNone : Value) w_12 rfl rfl rfl (by kernel_rfl) ?_
      refine y_nil ?_
      refine y_then (hK5 _ _ ?_)
      refine y_cond (t32_16.isNone) rfl rfl (fun hb60 => ?_) (fun hb60 => ?_)
      · replace h := h.1 (hb60)
        refine y_seq fun K14 hK14 => ?_
        refine y_region ?_
        refine y_k (.bool false : Value) w_12 rfl rfl rfl (by kernel_rfl) ?_
        refine y_nil ?_
        refine y_then (hK14 _ _ ?_)
        refine y_ret ?_
        repeat (first | refine e_then_r ?_ | refine e_block_r ?_)
        exact (hQ0 _ _ _ (res1 (v := (.bool false : Value)) rfl rfl rfl) ⟨_, rfl, h⟩).1
      · replace h := h.2 (hb60)
        refine y_skip ?_
        refine y_then (hK4 _ _ ?_)
        refine y_seq fun K15 hK15 => ?_
        refine y_seq fun K16 hK16 => ?_
        refine y_region ?_
        refine y_k (.int .i64 0 : Value) w_12 rfl rfl rfl (by kernel_rfl) ?_
        refine y_nil ?_
        refine y_then (hK16 _ _ ?_)
        refine y_block ?_
        refine y_loop (S := Int) (fun s j => match s with | (i5_17) => upd (upd (upd (j) 0 (.slice script0_1.a script0_1.n script0_1.c : Value)) 4 (.slice (some ⟨w_11.heap.size, 0, none⟩) 2 2 : Value)) 5 (.int .i64 i5_17 : Value)) (0) ?_ h ?_
        · dsimp only
          refine upd_id ?_ rfl
          refine upd_id ?_ rfl
          refine upd_id ?_ rfl
          rfl
        rintro KN19 next18 hN19 i5_17 j w_18 h
        unfold F11_l1 at h
        refine y_seq fun K20 hK20 => ?_
        refine y_seq fun K21 hK21 => ?_
        refine y_region ?_
        refine y_k (.int .i64 i5_17 : Value) w_18 rfl rfl rfl (by kernel_rfl) ?_
        refine y_k (.slice script0_1.a script0_1.n script0_1.c : Value) w_18 rfl rfl rfl (by kernel_rfl) ?_
        refine y_k (.int .i64 ((script0_1.n : Int)) : Value) w_18 rfl rfl rfl (by kernel_rfl) ?_
        refine y_k (.bool (decide (i5_17 < ((script0_1.n : Int)))) : Value) w_18 rfl rfl rfl (by kernel_rfl) ?_
        refine y_k (.bool (decide (i5_17 < ((script0_1.n : Int)))) : Value) w_18 rfl rfl rfl (by kernel_rfl) ?_
        refine y_fork (decide (i5_17 < ((script0_1.n : Int)))) (fun hb22 => ?_) (fun hb22 => ?_)
        · replace h := h.1 (of_decide_eq_true hb22)
          refine y_frame (upd_id (i := 39) (v := .bool true) rfl (congrArg Value.bool hb22)) ?_
          refine y_gyes rfl rfl rfl ?_
          refine y_k (.int .i64 i5_17 : Value) w_18 rfl rfl rfl (by kernel_rfl) ?_
          refine y_gyes rfl rfl rfl ?_
          refine y_k (.bool (decide (i5_17 < 2000)) : Value) w_18 rfl rfl rfl (by kernel_rfl) ?_
          refine y_k (.bool (decide (i5_17 < 2000)) : Value) w_18 rfl rfl rfl (by kernel_rfl) ?_
          refine y_nil ?_
          refine y_then (hK21 _ _ ?_)
          refine y_cond (decide (i5_17 < 2000)) rfl rfl (fun hb58 => ?_) (fun hb58 => ?_)
          · replace h := h.1 (of_decide_eq_true hb58)
            refine y_skip ?_
            refine y_then (hK20 _ _ ?_)
            refine y_seq fun K23 hK23 => ?_
            refine y_block ?_
            refine y_seq fun K25 hK25 => ?_
            refine y_region ?_
            refine y_k (.slice script0_1.a script0_1.n script0_1.c : Value) w_18 rfl rfl rfl (by kernel_rfl) ?_
            refine y_k (.int .i64 i5_17 : Value) w_18 rfl rfl rfl (by kernel_rfl) ?_
            obtain ⟨hx26a, hx26b, a_19, hx26, h⟩ := h
            refine y_v (v := (.pointer (some (a_19.add (Int.toNat i5_17 * 11))) : Value)) (s := Instr.indexAt 85 (.slice script0_1.a script0_1.n script0_1.c : Value) (.int .i64 i5_17 : Value)) rfl rfl rfl (by kernel_rfl) (run_ixs (el := 89) (by kernel_rfl) (by kernel_rfl) hx26 hx26a hx26b) ?_
            obtain ⟨t48_20, t48_21, t48_22, t48_23, t48_24, t48_25, t48_26, t48_27, t48_28, t48_29, t48_30, hx27, h⟩ := h
            refine y_v (s := Instr.loadAt 89 (.pointer (some (a_19.add (Int.toNat i5_17 * 11))))) rfl rfl rfl (by kernel_rfl) (rn_loadcells (k := 11) ⟨by kernel_rfl, by kernel_rfl⟩ rfl hx27) ?_
            refine y_k (.pointer (some (⟨w_18.heap.size, 0, none⟩ : Addr)) : Value) (w_18.alloc (.cells #[.int .i64 0, .int .i64 0, .string ByteArray.empty, .int .i64 0, .int .i64 0, .int .i64 0, .int .i64 0, .int .i64 0, .int .i64 0, .int .i64 0, .int .i64 0] 89)) rfl rfl rfl (by kernel_rfl) ?_
            replace h := h _ rfl
            generalize w_18.alloc (.cells #[.int .i64 0, .int .i64 0, .string ByteArray.empty, .int .i64 0, .int .i64 0, .int .i64 0, .int .i64 0, .int .i64 0, .int .i64 0, .int .i64 0, .int .i64 0] 89) = w_31 at h ⊢
            obtain ⟨hx28, h⟩ := h
            replace h := h _ rfl
            refine y_u (s := Instr.storeAt 89 (.pointer (some (⟨w_18.heap.size, 0, none⟩ : Addr))) (.agg #[.int .i64 t48_20, .int .i64 t48_21, .string t48_22, .int .i64 t48_23, .int .i64 t48_24, .int .i64 t48_25, .int .i64 t48_26, .int .i64 t48_27, .int .i64 t48_28, .int .i64 t48_29, .int .i64 t48_30] : Value)) rfl rfl (by kernel_rfl) (rn_storecells (k := 11) (cs := [.int .i64 t48_20, .int .i64 t48_21, .string t48_22, .int .i64 t48_23, .int .i64 t48_24, .int .i64 t48_25, .int .i64 t48_26, .int .i64 t48_27, .int .i64 t48_28, .int .i64 t48_29, .int .i64 t48_30]) (by kernel_rfl) rfl (by simp [Value.oneCell']) hx28) ?_
            generalize setCells w_31 (⟨w_18.heap.size, 0, none⟩ : Addr) 0 [.int .i64 t48_20, .int .i64 t48_21, .string t48_22, .int .i64 t48_23, .int .i64 t48_24, .int .i64 t48_25, .int .i64 t48_26, .int .i64 t48_27, .int .i64 t48_28, .int .i64 t48_29, .int .i64 t48_30] = w_32 at h ⊢
            refine y_nil ?_
            refine y_then (hK25 _ _ ?_)
            refine y_seq fun K29 hK29 => ?_
            refine y_region ?_
            refine y_k (.pointer (some ((⟨w_18.heap.size, 0, none⟩ : Addr).add 1)) : Value) w_32 rfl rfl rfl (by kernel_rfl) ?_
            obtain ⟨t50_33, hx30, h⟩ := h
            refine y_v (s := Instr.loadAt 3 (.pointer (some ((⟨w_18.heap.size, 0, none⟩ : Addr).add 1)))) rfl rfl rfl (by kernel_rfl) (rn_load (by kernel_rfl) hx30) ?_
            refine y_k (.int .i64 (ibits .and .i64 t50_33 1) : Value) w_32 rfl rfl rfl (by kernel_rfl) ?_
            refine y_k (.int .i64 (ibits .and .i64 t50_33 1) : Value) w_32 rfl rfl rfl (by kernel_rfl) ?_
            refine y_nil ?_
            refine y_then (hK29 _ _ ?_)
            refine y_seq fun K31 hK31 => ?_
            obtain ⟨w_34, hwd32⟩ : ∃ wd : World, wd = w_32.drew := ⟨_, rfl⟩
            replace h := h _ hwd32
            refine t_region (wd := w_34) [] (by kernel_rfl) hwd32 SF_nil fun Q32 hE32 hp32 hS => ?_
            clear hwd32
            refine t_kw hp32 hS 0 (.slice (some ⟨w_11.heap.size, 0, none⟩) 2 2 : Value) rfl (wanted_none rfl) rfl rfl (by kernel_rfl) (fun _ _ => by kernel_rfl) fun hS => ?_
            refine t_kw hp32 hS 1 (.int .i64 (ibits .and .i64 t50_33 1) : Value) rfl (wanted_none rfl) rfl rfl (by kernel_rfl) (fun _ _ => by kernel_rfl) fun hS => ?_
            obtain ⟨hx33a, hx33b, a_35, hx33, h⟩ := h
            refine t_v (s := Instr.indexAt 99 (.slice (some ⟨w_11.heap.size, 0, none⟩) 2 2 : Value) (.int .i64 (ibits .and .i64 t50_33 1) : Value)) hp32 hS 2 (.pointer (some (a_35.add (Int.toNat (ibits .and .i64 t50_33 1) * 2))) : Value) rfl (wanted_none rfl) rfl rfl (by kernel_rfl) (by kernel_rfl) (fun _ _ => run_ixs (el := 98) (by kernel_rfl) (by kernel_rfl) hx33 hx33a hx33b) fun hS => ?_
            obtain ⟨t55_36, t55_37, hx34, h⟩ := h
            refine t_add ⟨3, [10], fun wx => CellsAt wx (a_35.add (Int.toNat (ibits .and .i64 t50_33 1) * 2)) 0 [.pointer t55_36, .pointer t55_37]⟩ ?_
            replace hS := SF_on (x := ⟨3, [10], fun wx => CellsAt wx (a_35.add (Int.toNat (ibits .and .i64 t50_33 1) * 2)) 0 [.pointer t55_36, .pointer t55_37]⟩) hx34 hS
            refine t_v (s := Instr.loadAt 98 (.pointer (some (a_35.add (Int.toNat (ibits .and .i64 t50_33 1) * 2))))) hp32 hS 3 (.agg #[.pointer t55_36, .pointer t55_37] : Value) rfl (wanted_none rfl) rfl rfl (by kernel_rfl) (by kernel_rfl) (fun _ hw => rn_loadcells (k := 2) ⟨by kernel_rfl, by kernel_rfl⟩ rfl (Sw.fact (List.Mem.head _) rfl hw)) fun hS => ?_
            obtain ⟨t56_38, t56_39, t56_40, t56_41, t56_42, t56_43, t56_44, t56_45, t56_46, t56_47, t56_48, hx35, h⟩ := h
            refine t_add ⟨4, [10], fun wx => CellsAt wx (⟨w_18.heap.size, 0, none⟩ : Addr) 0 [.int .i64 t56_38, .int .i64 t56_39, .string t56_40, .int .i64 t56_41, .int .i64 t56_42, .int .i64 t56_43, .int .i64 t56_44, .int .i64 t56_45, .int .i64 t56_46, .int .i64 t56_47, .int .i64 t56_48]⟩ ?_
            replace hS := SF_on (x := ⟨4, [10], fun wx => CellsAt wx (⟨w_18.heap.size, 0, none⟩ : Addr) 0 [.int .i64 t56_38, .int .i64 t56_39, .string t56_40, .int .i64 t56_41, .int .i64 t56_42, .int .i64 t56_43, .int .i64 t56_44, .int .i64 t56_45, .int .i64 t56_46, .int .i64 t56_47, .int .i64 t56_48]⟩) hx35 hS
            refine t_v (s := Instr.loadAt 89 (.pointer (some (⟨w_18.heap.size, 0, none⟩ : Addr)))) hp32 hS 4 (.agg #[.int .i64 t56_38, .int .i64 t56_39, .string t56_40, .int .i64 t56_41, .int .i64 t56_42, .int .i64 t56_43, .int .i64 t56_44, .int .i64 t56_45, .int .i64 t56_46, .int .i64 t56_47, .int .i64 t56_48] : Value) rfl (wanted_none rfl) rfl rfl (by kernel_rfl) (by kernel_rfl) (fun _ hw => rn_loadcells (k := 11) ⟨by kernel_rfl, by kernel_rfl⟩ rfl (Sw.fact (List.Mem.head _) rfl hw)) fun hS => ?_
            refine t_kw hp32 hS 5 (.slice (some ⟨w_11.heap.size, 0, none⟩) 2 2 : Value) rfl (wanted_none rfl) rfl rfl (by kernel_rfl) (fun _ _ => by kernel_rfl) fun hS => ?_
            refine t_kw hp32 hS 6 (.int .i64 (ibits .and .i64 t50_33 1) : Value) rfl (wanted_none rfl) rfl rfl (by kernel_rfl) (fun _ _ => by kernel_rfl) fun hS => ?_
            refine t_kw hp32 hS 7 (.int .i64 (IntKind.i64.wrap (1 - (ibits .and .i64 t50_33 1))) : Value) rfl (wanted_none rfl) rfl rfl (by kernel_rfl) (fun _ _ => by kernel_rfl) fun hS => ?_
            obtain ⟨hx36a, hx36b, a_49, hx36, h⟩ := h
            refine t_v (s := Instr.indexAt 99 (.slice (some ⟨w_11.heap.size, 0, none⟩) 2 2 : Value) (.int .i64 (IntKind.i64.wrap (1 - (ibits .and .i64 t50_33 1))) : Value)) hp32 hS 8 (.pointer (some (a_49.add (Int.toNat (IntKind.i64.wrap (1 - (ibits .and .i64 t50_33 1))) * 2))) : Value) rfl (wanted_none rfl) rfl rfl (by kernel_rfl) (by kernel_rfl) (fun _ _ => run_ixs (el := 98) (by kernel_rfl) (by kernel_rfl) hx36 hx36a hx36b) fun hS => ?_
            obtain ⟨t61_50, t61_51, hx37, h⟩ := h
            refine t_add ⟨9, [10], fun wx => CellsAt wx (a_49.add (Int.toNat (IntKind.i64.wrap (1 - (ibits .and .i64 t50_33 1))) * 2)) 0 [.pointer t61_50, .pointer t61_51]⟩ ?_
            replace hS := SF_on (x := ⟨9, [10], fun wx => CellsAt wx (a_49.add (Int.toNat (IntKind.i64.wrap (1 - (ibits .and .i64 t50_33 1))) * 2)) 0 [.pointer t61_50, .pointer t61_51]⟩) hx37 hS
            refine t_v (s := Instr.loadAt 98 (.pointer (some (a_49.add (Int.toNat (IntKind.i64.wrap (1 - (ibits .and .i64 t50_33 1))) * 2))))) hp32 hS 9 (.agg #[.pointer t61_50, .pointer t61_51] : Value) rfl (wanted_none rfl) rfl rfl (by kernel_rfl) (by kernel_rfl) (fun _ hw => rn_loadcells (k := 2) ⟨by kernel_rfl, by kernel_rfl⟩ rfl (Sw.fact (List.Mem.head _) rfl hw)) fun hS => ?_
            refine t_call 10 (by kernel_rfl) rfl (wanted_none rfl) rfl rfl (by kernel_rfl) (h.mono ?_)
            rintro _ w_53 ⟨t62_52, rfl, h⟩
            refine ⟨_, rfl, (SF_off (by kernel_rfl) (by kernel_rfl) (SF_off (by kernel_rfl) (by kernel_rfl) (SF_off (by kernel_rfl) (by kernel_rfl) SF_nil))), fun hS => ?_⟩
            refine t_kw hp32 hS 11 (.bool t62_52 : Value) rfl (wanted_none rfl) rfl rfl (by kernel_rfl) (fun _ _ => by kernel_rfl) fun hS => ?_
            refine t_done (by kernel_rfl) (hE32 _ _ ?_)
            refine y_then (hK31 _ _ ?_)
            refine y_seq fun K38 hK38 => ?_
            obtain ⟨w_54, hwd39⟩ : ∃ wd : World, wd = w_53.drew := ⟨_, rfl⟩
            replace h := h _ hwd39
            refine t_region (wd := w_54) [] (by kernel_rfl) hwd39 SF_nil fun Q39 hE39 hp39 hS => ?_
            clear hwd39
            refine t_kw hp39 hS 0 (.slice (some ⟨w_11.heap.size, 0, none⟩) 2 2 : Value) rfl (wanted_none rfl) rfl rfl (by kernel_rfl) (fun _ _ => by kernel_rfl) fun hS => ?_
            obtain ⟨hx40a, hx40b, a_55, hx40, h⟩ := h
            refine t_v (s := Instr.indexAt 99 (.slice (some ⟨w_11.heap.size, 0, none⟩) 2 2 : Value) (.int .i64 0 : Value)) hp39 hS 1 (.pointer (some (a_55.add (Int.toNat 0 * 2))) : Value) rfl (wanted_none rfl) rfl rfl (by kernel_rfl) (by kernel_rfl) (fun _ _ => run_ixs (el := 98) (by kernel_rfl) (by kernel_rfl) hx40 hx40a hx40b) fun hS => ?_
            obtain ⟨t65_56, t65_57, hx41, h⟩ := h
            refine t_add ⟨2, [7], fun wx => CellsAt wx (a_55.add (Int.toNat 0 * 2)) 0 [.pointer t65_56, .pointer t65_57]⟩ ?_
            replace hS := SF_on (x := ⟨2, [7], fun wx => CellsAt wx (a_55.add (Int.toNat 0 * 2)) 0 [.pointer t65_56, .pointer t65_57]⟩) hx41 hS
            refine t_v (s := Instr.loadAt 98 (.pointer (some (a_55.add (Int.toNat 0 * 2))))) hp39 hS 2 (.agg #[.pointer t65_56, .pointer t65_57] : Value) rfl (wanted_none rfl) rfl rfl (by kernel_rfl) (by kernel_rfl) (fun _ hw => rn_loadcells (k := 2) ⟨by kernel_rfl, by kernel_rfl⟩ rfl (Sw.fact (List.Mem.head _) rfl hw)) fun hS => ?_
            refine t_kw hp39 hS 3 (.pointer (some ((⟨w_18.heap.size, 0, none⟩ : Addr).add 2)) : Value) rfl (wanted_none rfl) rfl rfl (by kernel_rfl) (fun _ _ => by kernel_rfl) fun hS => ?_
            obtain ⟨t67_58, hx42, h⟩ := h
            refine t_add ⟨4, [7], fun wx => wx.cell? ((⟨w_18.heap.size, 0, none⟩ : Addr).add 2) = some (.string t67_58)⟩ ?_
            replace hS := SF_on (x := ⟨4, [7], fun wx => wx.cell? ((⟨w_18.heap.size, 0, none⟩ : Addr).add 2) = some (.string t67_58)⟩) hx42 hS
            refine t_v (s := Instr.loadAt 9 (.pointer (some ((⟨w_18.heap.size, 0, none⟩ : Addr).add 2)))) hp39 hS 4 (.string t67_58 : Value) rfl (wanted_none rfl) rfl rfl (by kernel_rfl) (by kernel_rfl) (fun _ hw => rn_load (by kernel_rfl) (Sw.fact (List.Mem.head _) rfl hw)) fun hS => ?_
            refine t_kw hp39 hS 5 (.pointer (some ((⟨w_18.heap.size, 0, none⟩ : Addr).add 3)) : Value) rfl (wanted_none rfl) rfl rfl (by kernel_rfl) (fun _ _ => by kernel_rfl) fun hS => ?_
            obtain ⟨t69_59, hx43, h⟩ := h
            refine t_add ⟨6, [7], fun wx => wx.cell? ((⟨w_18.heap.size, 0, none⟩ : Addr).add 3) = some (.int .i64 t69_59)⟩ ?_
            replace hS := SF_on (x := ⟨6, [7], fun wx => wx.cell? ((⟨w_18.heap.size, 0, none⟩ : Addr).add 3) = some (.int .i64 t69_59)⟩) hx43 hS
            refine t_v (s := Instr.loadAt 2 (.pointer (some ((⟨w_18.heap.size, 0, none⟩ : Addr).add 3)))) hp39 hS 6 (.int .i64 t69_59 : Value) rfl (wanted_none rfl) rfl rfl (by kernel_rfl) (by kernel_rfl) (fun _ hw => rn_load (by kernel_rfl) (Sw.fact (List.Mem.head _) rfl hw)) fun hS => ?_
            refine t_call 7 (by kernel_rfl) rfl (wanted_none rfl) rfl rfl (by kernel_rfl) (h.mono ?_)
            rintro _ w_61 ⟨t70_60, rfl, h⟩
            refine ⟨_, rfl, (SF_off (by kernel_rfl) (by kernel_rfl) (SF_off (by kernel_rfl) (by kernel_rfl) (SF_off (by kernel_rfl) (by kernel_rfl) SF_nil))), fun hS => ?_⟩
            refine t_kw hp39 hS 8 (.bool t70_60 : Value) rfl (wanted_none rfl) rfl rfl (by kernel_rfl) (fun _ _ => by kernel_rfl) fun hS => ?_
            refine t_done (by kernel_rfl) (hE39 _ _ ?_)
            refine y_then (hK38 _ _ ?_)
            refine y_seq fun K44 hK44 => ?_
            obtain ⟨w_62, hwd45⟩ : ∃ wd : World, wd = w_61.drew := ⟨_, rfl⟩
            replace h := h _ hwd45
            refine t_region (wd := w_62) [] (by kernel_rfl) hwd45 SF_nil fun Q45 hE45 hp45 hS => ?_
            clear hwd45
            refine t_kw hp45 hS 0 (.slice (some ⟨w_11.heap.size, 0, none⟩) 2 2 : Value) rfl (wanted_none rfl) rfl rfl (by kernel_rfl) (fun _ _ => by kernel_rfl) fun hS => ?_
            obtain ⟨hx46a, hx46b, a_63, hx46, h⟩ := h
            refine t_v (s := Instr.indexAt 99 (.slice (some ⟨w_11.heap.size, 0, none⟩) 2 2 : Value) (.int .i64 1 : Value)) hp45 hS 1 (.pointer (some (a_63.add (Int.toNat 1 * 2))) : Value) rfl (wanted_none rfl) rfl rfl (by kernel_rfl) (by kernel_rfl) (fun _ _ => run_ixs (el := 98) (by kernel_rfl) (by kernel_rfl) hx46 hx46a hx46b) fun hS => ?_
            obtain ⟨t73_64, t73_65, hx47, h⟩ := h
            refine t_add ⟨2, [7], fun wx => CellsAt wx (a_63.add (Int.toNat 1 * 2)) 0 [.pointer t73_64, .pointer t73_65]⟩ ?_
            replace hS := SF_on (x := ⟨2, [7], fun wx => CellsAt wx (a_63.add (Int.toNat 1 * 2)) 0 [.pointer t73_64, .pointer t73_65]⟩) hx47 hS
            refine t_v (s := Instr.loadAt 98 (.pointer (some (a_63.add (Int.toNat 1 * 2))))) hp45 hS 2 (.agg #[.pointer t73_64, .pointer t73_65] : Value) rfl (wanted_none rfl) rfl rfl (by kernel_rfl) (by kernel_rfl) (fun _ hw => rn_loadcells (k := 2) ⟨by kernel_rfl, by kernel_rfl⟩ rfl (Sw.fact (List.Mem.head _) rfl hw)) fun hS => ?_
            refine t_kw hp45 hS 3 (.pointer (some ((⟨w_18.heap.size, 0, none⟩ : Addr).add 2)) : Value) rfl (wanted_none rfl) rfl rfl (by kernel_rfl) (fun _ _ => by kernel_rfl) fun hS => ?_
            obtain ⟨t75_66, hx48, h⟩ := h
            refine t_add ⟨4, [7], fun wx => wx.cell? ((⟨w_18.heap.size, 0, none⟩ : Addr).add 2) = some (.string t75_66)⟩ ?_
            replace hS := SF_on (x := ⟨4, [7], fun wx => wx.cell? ((⟨w_18.heap.size, 0, none⟩ : Addr).add 2) = some (.string t75_66)⟩) hx48 hS
            refine t_v (s := Instr.loadAt 9 (.pointer (some ((⟨w_18.heap.size, 0, none⟩ : Addr).add 2)))) hp45 hS 4 (.string t75_66 : Value) rfl (wanted_none rfl) rfl rfl (by kernel_rfl) (by kernel_rfl) (fun _ hw => rn_load (by kernel_rfl) (Sw.fact (List.Mem.head _) rfl hw)) fun hS => ?_
            refine t_kw hp45 hS 5 (.pointer (some ((⟨w_18.heap.size, 0, none⟩ : Addr).add 3)) : Value) rfl (wanted_none rfl) rfl rfl (by kernel_rfl) (fun _ _ => by kernel_rfl) fun hS => ?_
            obtain ⟨t77_67, hx49, h⟩ := h
            refine t_add ⟨6, [7], fun wx => wx.cell? ((⟨w_18.heap.size, 0, none⟩ : Addr).add 3) = some (.int .i64 t77_67)⟩ ?_
            replace hS := SF_on (x := ⟨6, [7], fun wx => wx.cell? ((⟨w_18.heap.size, 0, none⟩ : Addr).add 3) = some (.int .i64 t77_67)⟩) hx49 hS
            refine t_v (s := Instr.loadAt 2 (.pointer (some ((⟨w_18.heap.size, 0, none⟩ : Addr).add 3)))) hp45 hS 6 (.int .i64 t77_67 : Value) rfl (wanted_none rfl) rfl rfl (by kernel_rfl) (by kernel_rfl) (fun _ hw => rn_load (by kernel_rfl) (Sw.fact (List.Mem.head _) rfl hw)) fun hS => ?_
            refine t_call 7 (by kernel_rfl) rfl (wanted_none rfl) rfl rfl (by kernel_rfl) (h.mono ?_)
            rintro _ w_69 ⟨t78_68, rfl, h⟩
            refine ⟨_, rfl, (SF_off (by kernel_rfl) (by kernel_rfl) (SF_off (by kernel_rfl) (by kernel_rfl) (SF_off (by kernel_rfl) (by kernel_rfl) SF_nil))), fun hS => ?_⟩
            refine t_kw hp45 hS 8 (.bool t78_68 : Value) rfl (wanted_none rfl) rfl rfl (by kernel_rfl) (fun _ _ => by kernel_rfl) fun hS => ?_
            refine t_done (by kernel_rfl) (hE45 _ _ ?_)
            refine y_then (hK44 _ _ ?_)
            refine y_seq fun K50 hK50 => ?_
            refine y_region ?_
            refine y_k (.bool t62_52 : Value) w_69 rfl rfl rfl (by kernel_rfl) ?_
            refine y_k (.bool (!(t62_52)) : Value) w_69 rfl rfl rfl (by kernel_rfl) ?_
            refine y_k (.bool (!(t62_52)) : Value) w_69 rfl rfl rfl (by kernel_rfl) ?_
            refine y_fork (!(t62_52)) (fun hb51 => ?_) (fun hb51 => ?_)
            · replace h := h.1 ((not_true_of hb51))
              refine y_frame (upd_id (i := 81) (v := .bool true) rfl (congrArg Value.bool hb51)) ?_
              refine y_gno rfl rfl rfl rfl ?_
              refine y_gno rfl rfl rfl rfl ?_
              refine y_k (.bool true : Value) w_69 rfl rfl rfl (by kernel_rfl) ?_
              refine y_k (.bool true : Value) w_69 rfl rfl rfl (by kernel_rfl) ?_
              refine y_gno rfl rfl rfl rfl ?_
              refine y_gno rfl rfl rfl rfl ?_
              refine y_k (.bool true : Value) w_69 rfl rfl rfl (by kernel_rfl) ?_
              refine y_nil ?_
              refine y_then (hK50 _ _ ?_)
              refine y_cond_t rfl rfl ?_
              refine y_seq fun K52 hK52 => ?_
              refine y_region ?_
              refine y_k (.bool false : Value) w_69 rfl rfl rfl (by kernel_rfl) ?_
              refine y_nil ?_
              refine y_then (hK52 _ _ ?_)
              refine y_ret ?_
              repeat (first | refine e_then_r ?_ | refine e_block_r ?_)
              exact (hQ0 _ _ _ (res1 (v := (.bool false : Value)) rfl rfl rfl) ⟨_, rfl, h⟩).1
            · replace h := h.2 ((not_false_of hb51))
              refine y_frame (upd_id (i := 81) (v := .bool false) rfl (congrArg Value.bool hb51)) ?_
              refine y_gyes rfl rfl rfl ?_
              refine y_k (.bool t70_60 : Value) w_69 rfl rfl rfl (by kernel_rfl) ?_
              refine y_gyes rfl rfl rfl ?_
              refine y_k (.bool (!(t70_60)) : Value) w_69 rfl rfl rfl (by kernel_rfl) ?_
              refine y_k (.bool (!(t70_60)) : Value) w_69 rfl rfl rfl (by kernel_rfl) ?_
              refine y_k (.bool (!(t70_60)) : Value) w_69 rfl rfl rfl (by kernel_rfl) ?_
              refine y_fork (!(t70_60)) (fun hb53 => ?_) (fun hb53 => ?_)
              · replace h := h.1 ((not_true_of hb53))
                refine y_frame (upd_id (i := 85) (v := .bool true) rfl (congrArg Value.bool hb53)) ?_
                refine y_gno rfl rfl rfl rfl ?_
                refine y_gno rfl rfl rfl rfl ?_
                refine y_k (.bool true : Value) w_69 rfl rfl rfl (by kernel_rfl) ?_
                refine y_nil ?_
                refine y_then (hK50 _ _ ?_)
                refine y_cond_t rfl rfl ?_
                refine y_seq fun K54 hK54 => ?_
                refine y_region ?_
                refine y_k (.bool false : Value) w_69 rfl rfl rfl (by kernel_rfl) ?_
                refine y_nil ?_
                refine y_then (hK54 _ _ ?_)
                refine y_ret ?_
                repeat (first | refine e_then_r ?_ | refine e_block_r ?_)
                exact (hQ0 _ _ _ (res1 (v := (.bool false : Value)) rfl rfl rfl) ⟨_, rfl, h⟩).1
              · replace h := h.2 ((not_false_of hb53))
                refine y_frame (upd_id (i := 85) (v := .bool false) rfl (congrArg Value.bool hb53)) ?_
                refine y_gyes rfl rfl rfl ?_
                refine y_k (.bool t78_68 : Value) w_69 rfl rfl rfl (by kernel_rfl) ?_
                refine y_gyes rfl rfl rfl ?_
                refine y_k (.bool (!(t78_68)) : Value) w_69 rfl rfl rfl (by kernel_rfl) ?_
                refine y_k (.bool (!(t78_68)) : Value) w_69 rfl rfl rfl (by kernel_rfl) ?_
                refine y_nil ?_
                refine y_then (hK50 _ _ ?_)
                refine y_cond (!(t78_68)) rfl rfl (fun hb56 => ?_) (fun hb56 => ?_)
                · replace h := h.1 ((not_true_of hb56))
                  refine y_seq fun K55 hK55 => ?_
                  refine y_region ?_
                  refine y_k (.bool false : Value) w_69 rfl rfl rfl (by kernel_rfl) ?_
                  refine y_nil ?_
                  refine y_then (hK55 _ _ ?_)
                  refine y_ret ?_
                  repeat (first | refine e_then_r ?_ | refine e_block_r ?_)
                  exact (hQ0 _ _ _ (res1 (v := (.bool false : Value)) rfl rfl rfl) ⟨_, rfl, h⟩).1
                · replace h := h.2 ((not_false_of hb56))
                  refine y_skip ?_
                  refine e_block_n ?_
                  refine y_then (hK23 _ _ ?_)
                  refine y_region ?_
                  refine y_k (.int .i64 i5_17 : Value) w_69 rfl rfl rfl (by kernel_rfl) ?_
                  refine y_k (.int .i64 (IntKind.i64.wrap (i5_17 + 1)) : Value) w_69 rfl rfl rfl (by kernel_rfl) ?_
                  refine y_k (.int .i64 (IntKind.i64.wrap (i5_17 + 1)) : Value) w_69 rfl rfl rfl (by kernel_rfl) ?_
                  refine y_nil ?_
                  refine y_then (hN19 (IntKind.i64.wrap (i5_17 + 1)) _ _ h ?_)
                  dsimp only
                  refine upd_id ?_ rfl
                  refine upd_id ?_ rfl
                  refine upd_id ?_ rfl
                  rfl
          · replace h := h.2 (of_decide_eq_false hb58)
            refine y_exit ?_
            repeat (first | refine e_then_x ?_ | refine e_block_y rfl ?_)
            refine e_block_x ?_
            refine y_then (hK15 _ _ ?_)
            refine y_seq fun K57 hK57 => ?_
            refine y_region ?_
            refine y_k (.bool true : Value) w_18 rfl rfl rfl (by kernel_rfl) ?_
            refine y_nil ?_
            refine y_then (hK57 _ _ ?_)
            refine y_ret ?_
            repeat (first | refine e_then_r ?_ | refine e_block_r ?_)
            exact (hQ0 _ _ _ (res1 (v := (.bool true : Value)) rfl rfl rfl) ⟨_, rfl, h⟩).1
        · replace h := h.2 (of_decide_eq_false hb22)
          refine y_frame (upd_id (i := 39) (v := .bool false) rfl (congrArg Value.bool hb22)) ?_
          refine y_gno rfl rfl rfl rfl ?_
          refine y_gno rfl rfl rfl rfl ?_
          refine y_k (.bool false : Value) w_18 rfl rfl rfl (by kernel_rfl) ?_
          refine y_nil ?_
          refine y_then (hK21 _ _ ?_)
          refine y_cond_f rfl rfl ?_
          refine y_exit ?_
          repeat (first | refine e_then_x ?_ | refine e_block_y rfl ?_)
          refine e_block_x ?_
          refine y_then (hK15 _ _ ?_)
          refine y_seq fun K59 hK59 => ?_
          refine y_region ?_
          refine y_k (.bool true : Value) w_18 rfl rfl rfl (by kernel_rfl) ?_
          refine y_nil ?_
          refine y_then (hK59 _ _ ?_)
          refine y_ret ?_
          repeat (first | refine e_then_r ?_ | refine e_block_r ?_)
          exact (hQ0 _ _ _ (res1 (v := (.bool true : Value)) rfl rfl rfl) ⟨_, rfl, h⟩).1

end Go.Proofs.Ythhcaaellhdkiaa
