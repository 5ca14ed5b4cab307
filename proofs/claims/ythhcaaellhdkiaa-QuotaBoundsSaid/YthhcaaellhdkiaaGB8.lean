/- Printed by gen.py (own program, wip/): for each Go function a predicate transformer and its soundness. -/
import Derived.Test.YthhcaaellhdkiaaProg
import Derived.Test.YthhcaaellhdkiaaST
namespace Go.Proofs.Ythhcaaellhdkiaa
open Go Go.RowKit Go.Proofs.Ythhcaaellhdkiaa.SX
set_option linter.unusedVariables false

def F8_l4 (asks1_2 : Sl) (K : Bool → World → Prop) (t44_17 : Option Addr) (t46_19 : Option Addr) (next74 : (Int) → World → Prop) : (Int) → World → Prop := fun (i11_44) w_45 =>
  ((i11_44 < ((asks1_2.n : Int)) →
  (0 : Int) ≤ i11_44 ∧ i11_44 < (asks1_2.n : Int) ∧ ∃ (a_46 : Addr), asks1_2.a = some a_46 ∧
  ∃ (t101_47 : Int), w_45.cell? (a_46.add (Int.toNat i11_44)) = some (.int .i64 t101_47) ∧
  Calls Try.prog 39 #[.pointer t44_17, .int .i64 t101_47] w_45 fun e w_50 => ∃ (t102_48 : Int), ∃ (t102_49 : Bool), e = .returned (.tuple #[.int .u64 t102_48, .bool t102_49] : Value) ∧
  (0 : Int) ≤ i11_44 ∧ i11_44 < (asks1_2.n : Int) ∧ ∃ (a_51 : Addr), asks1_2.a = some a_51 ∧
  ∃ (t110_52 : Int), w_50.cell? (a_51.add (Int.toNat i11_44)) = some (.int .i64 t110_52) ∧
  Calls Try.prog 40 #[.pointer t46_19, .int .i64 t110_52] w_50 fun e w_55 => ∃ (t111_53 : Int), ∃ (t111_54 : Bool), e = .returned (.tuple #[.int .u64 t111_53, .bool t111_54] : Value) ∧
  ((¬ t102_48 = t111_53 →
  K false w_55) ∧
  (t102_48 = t111_53 →
  ∃ (t120_56 : Bool), (do eqGuard .neq 4 (Operand.tmp 118) (Operand.tmp 119) (.bool t102_49 : Value) (.bool t111_54 : Value); binOp .neq 4 (.bool t102_49 : Value) (.bool t111_54 : Value)).run Try.prog w_55 = .ok (.bool t120_56 : Value) w_55 ∧
  ((t120_56 = true →
  K false w_55) ∧
  (t120_56 = false →
  Calls Try.prog 41 #[.pointer t44_17] w_55 fun e w_58 => ∃ (t124_57 : Int), e = .returned (.int .i64 t124_57 : Value) ∧
  Calls Try.prog 42 #[.pointer t46_19] w_58 fun e w_60 => ∃ (t126_59 : Int), e = .returned (.int .i64 t126_59 : Value) ∧
  ((¬ t124_57 = t126_59 →
  K false w_60) ∧
  (t124_57 = t126_59 →
  next74 (IntKind.i64.wrap (i11_44 + 1)) w_60))))))) ∧
  (¬ (i11_44 < ((asks1_2.n : Int))) →
  Calls Try.prog 41 #[.pointer t44_17] w_45 fun e w_62 => ∃ (t130_61 : Int), e = .returned (.int .i64 t130_61 : Value) ∧
  Calls Try.prog 42 #[.pointer t46_19] w_62 fun e w_64 => ∃ (t132_63 : Int), e = .returned (.int .i64 t132_63 : Value) ∧
  K ((t130_61 == t132_63)) w_64))
def F8_l3 (asks1_2 : Sl) (K : Bool → World → Prop) (b0_6 : Sl) (t25_8 : Sl) (t44_17 : Option Addr) (t46_19 : Option Addr) (next32 : (Int) → World → Prop) : (Int) → World → Prop := fun (i10_21) w_22 =>
  ((i10_21 < ((t25_8.n : Int)) →
  ((i10_21 < ((b0_6.n : Int)) →
  (0 : Int) ≤ i10_21 ∧ i10_21 < (t25_8.n : Int) ∧ ∃ (a_23 : Addr), t25_8.a = some a_23 ∧
  ∃ (t67_24 : Int), w_22.cell? (a_23.add (Int.toNat i10_21)) = some (.int .u8 t67_24) ∧
  (0 : Int) ≤ i10_21 ∧ i10_21 < (b0_6.n : Int) ∧ ∃ (a_25 : Addr), b0_6.a = some a_25 ∧
  ∃ (t71_26 : Int), w_22.cell? (a_25.add (Int.toNat i10_21)) = some (.int .u8 t71_26) ∧
  ((¬ t67_24 = t71_26 →
  ∀ (w_27 : World), (∃ m, w_27 = w_22.drewN m) →
  K false w_27) ∧
  (t67_24 = t71_26 →
  ((i10_21 ≥ ((b0_6.n : Int)) →
  (0 : Int) ≤ i10_21 ∧ i10_21 < (t25_8.n : Int) ∧ ∃ (a_28 : Addr), t25_8.a = some a_28 ∧
  ∃ (t83_29 : Int), w_22.cell? (a_28.add (Int.toNat i10_21)) = some (.int .u8 t83_29) ∧
  ∀ (w_30 : World), (∃ m, w_30 = w_22.drewN m) →
  ((¬ t83_29 = 255 →
  K false w_30) ∧
  (t83_29 = 255 →
  (0 : Int) ≤ i10_21 ∧ i10_21 < (t25_8.n : Int) ∧ ∃ (a_31 : Addr), t25_8.a = some a_31 ∧
  HasCell w_30 (a_31.add (Int.toNat i10_21)) ∧ ∀ (w_32 : World), w_32 = w_30.setCell (a_31.add (Int.toNat i10_21)) (.int .u8 85 : Value) →
  next32 (IntKind.i64.wrap (i10_21 + 1)) w_32))) ∧
  (¬ (i10_21 ≥ ((b0_6.n : Int))) →
  ∀ (w_33 : World), (∃ m, w_33 = w_22.drewN m) →
  (0 : Int) ≤ i10_21 ∧ i10_21 < (t25_8.n : Int) ∧ ∃ (a_34 : Addr), t25_8.a = some a_34 ∧
  HasCell w_33 (a_34.add (Int.toNat i10_21)) ∧ ∀ (w_35 : World), w_35 = w_33.setCell (a_34.add (Int.toNat i10_21)) (.int .u8 85 : Value) →
  next32 (IntKind.i64.wrap (i10_21 + 1)) w_35))))) ∧
  (¬ (i10_21 < ((b0_6.n : Int))) →
  ((i10_21 ≥ ((b0_6.n : Int)) →
  (0 : Int) ≤ i10_21 ∧ i10_21 < (t25_8.n : Int) ∧ ∃ (a_36 : Addr), t25_8.a = some a_36 ∧
  ∃ (t83_37 : Int), w_22.cell? (a_36.add (Int.toNat i10_21)) = some (.int .u8 t83_37) ∧
  ∀ (w_38 : World), (∃ m, w_38 = w_22.drewN m) →
  ((¬ t83_37 = 255 →
  K false w_38) ∧
  (t83_37 = 255 →
  (0 : Int) ≤ i10_21 ∧ i10_21 < (t25_8.n : Int) ∧ ∃ (a_39 : Addr), t25_8.a = some a_39 ∧
  HasCell w_38 (a_39.add (Int.toNat i10_21)) ∧ ∀ (w_40 : World), w_40 = w_38.setCell (a_39.add (Int.toNat i10_21)) (.int .u8 85 : Value) →
  next32 (IntKind.i64.wrap (i10_21 + 1)) w_40))) ∧
  (¬ (i10_21 ≥ ((b0_6.n : Int))) →
  ∀ (w_41 : World), (∃ m, w_41 = w_22.drewN m) →
  (0 : Int) ≤ i10_21 ∧ i10_21 < (t25_8.n : Int) ∧ ∃ (a_42 : Addr), t25_8.a = some a_42 ∧
  HasCell w_41 (a_42.add (Int.toNat i10_21)) ∧ ∀ (w_43 : World), w_43 = w_41.setCell (a_42.add (Int.toNat i10_21)) (.int .u8 85 : Value) →
  next32 (IntKind.i64.wrap (i10_21 + 1)) w_43))))) ∧
  (¬ (i10_21 < ((t25_8.n : Int))) →
  kLoop (F8_l4 asks1_2 K t44_17 t46_19) (0) w_22))
def F8_l2 (asks1_2 : Sl) (K : Bool → World → Prop) (t16_3 : Bool) (b0_6 : Sl) (t25_8 : Sl) (next13 : (Int) → World → Prop) : (Int) → World → Prop := fun (i7_12) w_13 =>
  ((i7_12 < ((t25_8.n : Int)) →
  (0 : Int) ≤ i7_12 ∧ i7_12 < (t25_8.n : Int) ∧ ∃ (a_14 : Addr), t25_8.a = some a_14 ∧
  HasCell w_13 (a_14.add (Int.toNat i7_12)) ∧ ∀ (w_15 : World), w_15 = w_13.setCell (a_14.add (Int.toNat i7_12)) (.int .u8 255 : Value) →
  next13 (IntKind.i64.wrap (i7_12 + 1)) w_15) ∧
  (¬ (i7_12 < ((t25_8.n : Int))) →
  ∃ (t43_16 : Sl), (Instr.sliceAt 22 (.slice t25_8.a t25_8.n t25_8.c : Value) none (some (.int .i64 ((b0_6.n : Int)) : Value)) none).run Try.prog w_13 = .ok (.slice t43_16.a t43_16.n t43_16.c : Value) w_13 ∧
  Calls Try.prog 37 #[.slice t43_16.a t43_16.n t43_16.c] w_13 fun e w_18 => ∃ (t44_17 : Option Addr), e = .returned (.pointer t44_17 : Value) ∧
  Calls Try.prog 38 #[.slice b0_6.a b0_6.n b0_6.c] w_18 fun e w_20 => ∃ (t46_19 : Option Addr), e = .returned (.pointer t46_19 : Value) ∧
  ((t16_3 = false →
  K false w_20) ∧
  (t16_3 = true →
  ((t44_17.isNone = true →
  K false w_20) ∧
  (t44_17.isNone = false →
  kLoop (F8_l3 asks1_2 K b0_6 t25_8 t44_17 t46_19) (0) w_20))))))
def F8_j1 (asks1_2 : Sl) (K : Bool → World → Prop) (t16_3 : Bool) (b0_6 : Sl) (w_7 : World) : Prop :=
  ∃ (t25_8 : Sl), ∃ (w_9 : World), (Instr.makeSlice 22 (.int .i64 (IntKind.i64.wrap (((b0_6.n : Int)) + 8)) : Value) (.int .i64 (IntKind.i64.wrap (((b0_6.n : Int)) + 8)) : Value)).run Try.prog w_7 = .ok (.slice t25_8.a t25_8.n t25_8.c : Value) w_9 ∧
  ∃ (t28_10 : Int), ∃ (w_11 : World), (Builtin.copy_ #[22, 22] 3 #[.slice t25_8.a t25_8.n t25_8.c, .slice b0_6.a b0_6.n b0_6.c]).run Try.prog w_9 = .ok (.int .i64 t28_10 : Value) w_11 ∧
  kLoop (F8_l2 asks1_2 K t16_3 b0_6 t25_8) ((b0_6.n : Int)) w_11
/-- turnkey/turnkeylaw03.BitsReads -/
def F8 (b0_1 : Sl) (asks1_2 : Sl) (K : Bool → World → Prop) (w : World) : Prop :=
  Calls Try.prog 32 #[] w fun e w_4 => ∃ (t16_3 : Bool), e = .returned (.bool t16_3 : Value) ∧
  ((((b0_1.n : Int)) > 4000 →
  ∃ (t21_5 : Sl), (Instr.sliceAt 22 (.slice b0_1.a b0_1.n b0_1.c : Value) none (some (.int .i64 4000 : Value)) none).run Try.prog w_4 = .ok (.slice t21_5.a t21_5.n t21_5.c : Value) w_4 ∧
  F8_j1 asks1_2 K t16_3 t21_5 w_4) ∧
  (¬ (((b0_1.n : Int)) > 4000) →
  F8_j1 asks1_2 K t16_3 b0_1 w_4))
set_option maxHeartbeats 4000000 in
set_option maxRecDepth 20000 in
theorem F8_sound (b0_1 : Sl) (asks1_2 : Sl) (K : Bool → World → Prop) (w : World) (h : F8 b0_1 asks1_2 K w) :
    Calls Try.prog 8 #[.slice b0_1.a b0_1.n b0_1.c, .slice asks1_2.a asks1_2.n asks1_2.c] w (fun e w1 => ∃ (r0 : Bool), e = .returned (.bool r0 : Value) ∧ K r0 w1) := by
  unfold F8 at h
  refine y_enter (n := 134) (args := [.slice b0_1.a b0_1.n b0_1.c, .slice asks1_2.a asks1_2.n asks1_2.c]) Try.func8 rfl rfl rfl fun Q0 hQ0 => ?_
  refine y_seq fun K1 hK1 => ?_
  refine y_region ?_
  refine y_k (.bool false : Value) w rfl rfl rfl (by kernel_rfl) ?_
  refine y_nil ?_
  refine y_then (hK1 _ _ ?_)
  refine y_seq fun K2 hK2 => ?_
  refine y_region ?_
  refine y_call rfl rfl rfl (by kernel_rfl) (h.mono ?_)
  rintro _ w_4 ⟨t16_3, rfl, h⟩
  refine ⟨_, rfl, ?_⟩
  refine y_k (.bool t16_3 : Value) w_4 rfl rfl rfl (by kernel_rfl) ?_
  refine y_nil ?_
  refine y_then (hK2 _ _ ?_)
  refine y_seq fun K3 hK3 => ?_
  have hjK3 : ∀ (f : Fr) (b0_6 : Sl) (w_7 : World), f 0 = (.slice b0_6.a b0_6.n b0_6.c : Value) → f 1 = (.slice asks1_2.a asks1_2.n asks1_2.c : Value) → f 5 = (.bool t16_3 : Value) → F8_j1 asks1_2 K t16_3 b0_6 w_7 → WK K3 134 f w_7 := by
    intro f b0_6 w_7 e0 e1 e5 h
    refine y_atf (upd_id (upd_id (upd_id rfl e0) e1) e5) ?_
    clear e0 e1 e5
    unfold F8_j1 at h
    refine hK3 _ _ ?_
    refine y_seq fun K6 hK6 => ?_
    refine y_region ?_
    refine y_k (.slice b0_6.a b0_6.n b0_6.c : Value) w_7 rfl rfl rfl (by kernel_rfl) ?_
    refine y_k (.int .i64 ((b0_6.n : Int)) : Value) w_7 rfl rfl rfl (by kernel_rfl) ?_
    refine y_k (.int .i64 (IntKind.i64.wrap (((b0_6.n : Int)) + 8)) : Value) w_7 rfl rfl rfl (by kernel_rfl) ?_
    obtain ⟨t25_8, w_9, hx7, h⟩ := h
    refine y_v (s := Instr.makeSlice 22 (.int .i64 (IntKind.i64.wrap (((b0_6.n : Int)) + 8)) : Value) (.int .i64 (IntKind.i64.wrap (((b0_6.n : Int)) + 8)) : Value)) rfl rfl rfl (by kernel_rfl) hx7 ?_
    refine y_k (.slice t25_8.a t25_8.n t25_8.c : Value) w_9 rfl rfl rfl (by kernel_rfl) ?_
    refine y_nil ?_
    refine y_then (hK6 _ _ ?_)
    refine y_seq fun K8 hK8 => ?_
    refine y_region ?_
    refine y_k (.slice t25_8.a t25_8.n t25_8.c : Value) w_9 rfl rfl rfl (by kernel_rfl) ?_
    refine y_k (.slice b0_6.a b0_6.n b0_6.c : Value) w_9 rfl rfl rfl (by kernel_rfl) ?_
    obtain ⟨t28_10, w_11, hx9, h⟩ := h
    refine y_v (s := Builtin.copy_ #[22, 22] 3 #[.slice t25_8.a t25_8.n t25_8.c, .slice b0_6.a b0_6.n b0_6.c]) rfl rfl rfl (by kernel_rfl) hx9 ?_
    refine y_nil ?_
    refine y_then (hK8 _ _ ?_)
    refine y_seq fun K10 hK10 => ?_
    refine y_seq fun K11 hK11 => ?_
    refine y_region ?_
    refine y_k (.slice b0_6.a b0_6.n b0_6.c : Value) w_11 rfl rfl rfl (by kernel_rfl) ?_
    refine y_k (.int .i64 ((b0_6.n : Int)) : Value) w_11 rfl rfl rfl (by kernel_rfl) ?_
    refine y_k (.int .i64 ((b0_6.n : Int)) : Value) w_11 rfl rfl rfl (by kernel_rfl) ?_
    refine y_nil ?_
    refine y_then (hK11 _ _ ?_)
    refine y_block ?_
    refine y_loop (S := Int) (fun s j => match s with | (i7_12) => upd (upd (upd (upd (upd (j) 0 (.slice b0_6.a b0_6.n b0_6.c : Value)) 1 (.slice asks1_2.a asks1_2.n asks1_2.c : Value)) 5 (.bool t16_3 : Value)) 6 (.slice t25_8.a t25_8.n t25_8.c : Value)) 7 (.int .i64 i7_12 : Value)) ((b0_6.n : Int)) ?_ h ?_
    · dsimp only
      refine upd_id ?_ rfl
      refine upd_id ?_ rfl
      refine upd_id ?_ rfl
      refine upd_id ?_ rfl
      refine upd_id ?_ rfl
      rfl
    rintro KN14 next13 hN14 i7_12 j w_13 h
    unfold F8_l2 at h
    refine y_seq fun K15 hK15 => ?_
    refine y_seq fun K16 hK16 => ?_
    refine y_region ?_
    refine y_k (.int .i64 i7_12 : Value) w_13 rfl rfl rfl (by kernel_rfl) ?_
    refine y_k (.slice t25_8.a t25_8.n t25_8.c : Value) w_13 rfl rfl rfl (by kernel_rfl) ?_
    refine y_k (.int .i64 ((t25_8.n : Int)) : Value) w_13 rfl rfl rfl (by kernel_rfl) ?_
    refine y_k (.bool (decide (i7_12 < ((t25_8.n : Int)))) : Value) w_13 rfl rfl rfl (by kernel_rfl) ?_
    refine y_nil ?_
    refine y_then (hK16 _ _ ?_)
    refine y_cond (decide (i7_12 < ((t25_8.n : Int)))) rfl rfl (fun hb98 => ?_) (fun hb98 => ?_)
    · replace h := h.1 (of_decide_eq_true hb98)
      refine y_skip ?_
      refine y_then (hK15 _ _ ?_)
      refine y_seq fun K17 hK17 => ?_
      refine y_block ?_
      refine y_region ?_
      refine y_k (.slice t25_8.a t25_8.n t25_8.c : Value) w_13 rfl rfl rfl (by kernel_rfl) ?_
      refine y_k (.int .i64 i7_12 : Value) w_13 rfl rfl rfl (by kernel_rfl) ?_
      obtain ⟨hx19a, hx19b, a_14, hx19, h⟩ := h
      refine y_v (v := (.pointer (some (a_14.add (Int.toNat i7_12))) : Value)) (s := Instr.indexAt 22 (.slice t25_8.a t25_8.n t25_8.c : Value) (.int .i64 i7_12 : Value)) rfl rfl rfl (by kernel_rfl) (run_ixs1 (el := 5) (by kernel_rfl) (by kernel_rfl) hx19 hx19a hx19b) ?_
      obtain ⟨hx20, h⟩ := h
      replace h := h _ rfl
      refine y_u (s := Instr.storeAt 5 (.pointer (some (a_14.add (Int.toNat i7_12)))) (.int .u8 255 : Value)) rfl rfl (by kernel_rfl) (rn_store1 (by kernel_rfl) rfl hx20) ?_
      generalize w_13.setCell (a_14.add (Int.toNat i7_12)) (.int .u8 255 : Value) = w_15 at h ⊢
      refine y_nil ?_
      refine e_block_n ?_
      refine y_then (hK17 _ _ ?_)
      refine y_region ?_
      refine y_k (.int .i64 i7_12 : Value) w_15 rfl rfl rfl (by kernel_rfl) ?_
      refine y_k (.int .i64 (IntKind.i64.wrap (i7_12 + 1)) : Value) w_15 rfl rfl rfl (by kernel_rfl) ?_
      refine y_k (.int .i64 (IntKind.i64.wrap (i7_12 + 1)) : Value) w_15 rfl rfl rfl (by kernel_rfl) ?_
      refine y_nil ?_
      refine y_then (hN14 (IntKind.i64.wrap (i7_12 + 1)) _ _ h ?_)
      dsimp only
      refine upd_id ?_ rfl
      refine upd_id ?_ rfl
      refine upd_id ?_ rfl
      refine upd_id ?_ rfl
      refine upd_id ?_ rfl
      rfl
    · replace h := h.2 (of_decide_eq_false hb98)
      refine y_exit ?_
      repeat (first | refine e_then_x ?_ | refine e_block_y rfl ?_)
      refine e_block_x ?_
      refine y_then (hK10 _ _ ?_)
      refine y_seq fun K21 hK21 => ?_
      refine y_region ?_
      refine y_k (.slice t25_8.a t25_8.n t25_8.c : Value) w_13 rfl rfl rfl (by kernel_rfl) ?_
      refine y_k (.slice b0_6.a b0_6.n b0_6.c : Value) w_13 rfl rfl rfl (by kernel_rfl) ?_
      refine y_k (.int .i64 ((b0_6.n : Int)) : Value) w_13 rfl rfl rfl (by kernel_rfl) ?_
      obtain ⟨t43_16, hx22, h⟩ := h
      refine y_v (s := Instr.sliceAt 22 (.slice t25_8.a t25_8.n t25_8.c : Value) none (some (.int .i64 ((b0_6.n : Int)) : Value)) none) rfl rfl rfl (by kernel_rfl) (hx22) ?_
      refine y_call rfl rfl rfl (by kernel_rfl) (h.mono ?_)
      rintro _ w_18 ⟨t44_17, rfl, h⟩
      refine ⟨_, rfl, ?_⟩
      refine y_k (.pointer t44_17 : Value) w_18 rfl rfl rfl (by kernel_rfl) ?_
      refine y_nil ?_
      refine y_then (hK21 _ _ ?_)
      refine y_seq fun K23 hK23 => ?_
      refine y_region ?_
      refine y_k (.slice b0_6.a b0_6.n b0_6.c : Value) w_18 rfl rfl rfl (by kernel_rfl) ?_
      refine y_call rfl rfl rfl (by kernel_rfl) (h.mono ?_)
      rintro _ w_20 ⟨t46_19, rfl, h⟩
      refine ⟨_, rfl, ?_⟩
      refine y_k (.pointer t46_19 : Value) w_20 rfl rfl rfl (by kernel_rfl) ?_
      refine y_nil ?_
      refine y_then (hK23 _ _ ?_)
      refine y_seq fun K24 hK24 => ?_
      refine y_seq fun K25 hK25 => ?_
      refine y_region ?_
      refine y_k (.bool t16_3 : Value) w_20 rfl rfl rfl (by kernel_rfl) ?_
      refine y_k (.bool (!(t16_3)) : Value) w_20 rfl rfl rfl (by kernel_rfl) ?_
      refine y_k (.bool (!(t16_3)) : Value) w_20 rfl rfl rfl (by kernel_rfl) ?_
      refine y_fork (!(t16_3)) (fun hb26 => ?_) (fun hb26 => ?_)
      · replace h := h.1 ((not_true_of hb26))
        refine y_frame (upd_id (i := 49) (v := .bool true) rfl (congrArg Value.bool hb26)) ?_
        refine y_gno rfl rfl rfl rfl ?_
        refine y_gno rfl rfl rfl rfl ?_
        refine y_k (.bool true : Value) w_20 rfl rfl rfl (by kernel_rfl) ?_
        refine y_nil ?_
        refine y_then (hK25 _ _ ?_)
        refine y_cond_t rfl rfl ?_
        refine y_seq fun K27 hK27 => ?_
        refine y_region ?_
        refine y_k (.bool false : Value) w_20 rfl rfl rfl (by kernel_rfl) ?_
        refine y_nil ?_
        refine y_then (hK27 _ _ ?_)
        refine y_ret ?_
        repeat (first | refine e_then_r ?_ | refine e_block_r ?_)
        exact (hQ0 _ _ _ (res1 (v := (.bool false : Value)) rfl rfl rfl) ⟨_, rfl, h⟩).1
      · replace h := h.2 ((not_false_of hb26))
        refine y_frame (upd_id (i := 49) (v := .bool false) rfl (congrArg Value.bool hb26)) ?_
        refine y_gyes rfl rfl rfl ?_
        refine y_k (.pointer t44_17 : Value) w_20 rfl rfl rfl (by kernel_rfl) ?_
        refine y_gyes rfl rfl rfl ?_
        refine y_v (v := (.bool t44_17.isNone : Value)) (s := do eqGuard .eql 72 (Operand.tmp 50) (Operand.const (Value.pointer none)) (.pointer t44_17 : Value) (.pointer none : Value); binOp .eql 72 (.pointer t44_17 : Value) (.pointer none : Value)) rfl rfl rfl (by kernel_rfl) (run_eql_ptrnil (by kernel_rfl)) ?_
        refine y_k (.bool t44_17.isNone : Value) w_20 rfl rfl rfl (by kernel_rfl) ?_
        refine y_nil ?_
        refine y_then (hK25 _ _ ?_)
        refine y_cond (t44_17.isNone) rfl rfl (fun hb97 => ?_) (fun hb97 => ?_)
        · replace h := h.1 (hb97)
          refine y_seq fun K28 hK28 => ?_
          refine y_region ?_
          refine y_k (.bool false : Value) w_20 rfl rfl rfl (by kernel_rfl) ?_
          refine y_nil ?_
          refine y_then (hK28 _ _ ?_)
          refine y_ret ?_
          repeat (first | refine e_then_r ?_ | refine e_block_r ?_)
          exact (hQ0 _ _ _ (res1 (v := (.bool false : Value)) rfl rfl rfl) ⟨_, rfl, h⟩).1
        · replace h := h.2 (hb97)
          refine y_skip ?_
          refine y_then (hK24 _ _ ?_)
          refine y_seq fun K29 hK29 => ?_
          refine y_seq fun K30 hK30 => ?_
          refine y_region ?_
          refine y_k (.int .i64 0 : Value) w_20 rfl rfl rfl (by kernel_rfl) ?_
          refine y_nil ?_
          refine y_then (hK30 _ _ ?_)
          refine y_block ?_
          refine y_loop (S := Int) (fun s j => match s with | (i10_21) => upd (upd (upd (upd (upd (upd (j) 0 (.slice b0_6.a b0_6.n b0_6.c : Value)) 1 (.slice asks1_2.a asks1_2.n asks1_2.c : Value)) 6 (.slice t25_8.a t25_8.n t25_8.c : Value)) 8 (.pointer t44_17 : Value)) 9 (.pointer t46_19 : Value)) 10 (.int .i64 i10_21 : Value)) (0) ?_ h ?_
          · dsimp only
            refine upd_id ?_ rfl
            refine upd_id ?_ rfl
            refine upd_id ?_ rfl
            refine upd_id ?_ rfl
            refine upd_id ?_ rfl
            refine upd_id ?_ rfl
            rfl
          rintro KN33 next32 hN33 i10_21 j w_22 h
          unfold F8_l3 at h
          refine y_seq fun K34 hK34 => ?_
          refine y_seq fun K35 hK35 => ?_
          refine y_region ?_
          refine y_k (.int .i64 i10_21 : Value) w_22 rfl rfl rfl (by kernel_rfl) ?_
          refine y_k (.slice t25_8.a t25_8.n t25_8.c : Value) w_22 rfl rfl rfl (by kernel_rfl) ?_
          refine y_k (.int .i64 ((t25_8.n : Int)) : Value) w_22 rfl rfl rfl (by kernel_rfl) ?_
          refine y_k (.bool (decide (i10_21 < ((t25_8.n : Int)))) : Value) w_22 rfl rfl rfl (by kernel_rfl) ?_
          refine y_nil ?_
          refine y_then (hK35 _ _ ?_)
          refine y_cond (decide (i10_21 < ((t25_8.n : Int)))) rfl rfl (fun hb96 => ?_) (fun hb96 => ?_)
          · replace h := h.1 (of_decide_eq_true hb96)
            refine y_skip ?_
            refine y_then (hK34 _ _ ?_)
            refine y_seq fun K36 hK36 => ?_
            refine y_block ?_
            refine y_seq fun K38 hK38 => ?_
            refine y_seq fun K39 hK39 => ?_
            refine q_region (by kernel_rfl) (by kernel_rfl) fun Qq40 hQq40 => ?_
            refine q_k (.int .i64 i10_21 : Value) rfl rfl rfl (fun _ => by kernel_rfl) ?_
            refine q_k (.slice b0_6.a b0_6.n b0_6.c : Value) rfl rfl rfl (fun _ => by kernel_rfl) ?_
            refine q_k (.int .i64 ((b0_6.n : Int)) : Value) rfl rfl rfl (fun _ => by kernel_rfl) ?_
            refine q_k (.bool (decide (i10_21 < ((b0_6.n : Int)))) : Value) rfl rfl rfl (fun _ => by kernel_rfl) ?_
            refine q_k (.bool (decide (i10_21 < ((b0_6.n : Int)))) : Value) rfl rfl rfl (fun _ => by kernel_rfl) ?_
            refine q_fork (decide (i10_21 < ((b0_6.n : Int)))) (fun hb41 => ?_) (fun hb41 => ?_)
            · replace h := h.1 (of_decide_eq_true hb41)
              refine q_frame (upd_id (i := 63) (v := .bool true) rfl (congrArg Value.bool hb41)) ?_
              refine q_gyes rfl rfl rfl ?_
              refine q_k (.slice t25_8.a t25_8.n t25_8.c : Value) rfl rfl rfl (fun _ => by kernel_rfl) ?_
              refine q_gyes rfl rfl rfl ?_
              refine q_k (.int .i64 i10_21 : Value) rfl rfl rfl (fun _ => by kernel_rfl) ?_
              refine q_gyes rfl rfl rfl ?_
              obtain ⟨hx42a, hx42b, a_23, hx42, h⟩ := h
              refine q_v (v := (.pointer (some (a_23.add (Int.toNat i10_21))) : Value)) (s := Instr.indexAt 22 (.slice t25_8.a t25_8.n t25_8.c : Value) (.int .i64 i10_21 : Value)) rfl rfl rfl (by kernel_rfl) (fun _ => run_ixs1 (el := 5) (by kernel_rfl) (by kernel_rfl) hx42 hx42a hx42b) ?_
              refine q_gyes rfl rfl rfl ?_
              obtain ⟨t67_24, hx43, h⟩ := h
              refine q_v (v := (.int .u8 t67_24 : Value)) (s := Instr.loadAt 5 (.pointer (some (a_23.add (Int.toNat i10_21))))) rfl rfl rfl (by kernel_rfl) (fun _ => rn_load (by kernel_rfl) hx43) ?_
              refine q_gyes rfl rfl rfl ?_
              refine q_k (.slice b0_6.a b0_6.n b0_6.c : Value) rfl rfl rfl (fun _ => by kernel_rfl) ?_
              refine q_gyes rfl rfl rfl ?_
              refine q_k (.int .i64 i10_21 : Value) rfl rfl rfl (fun _ => by kernel_rfl) ?_
              refine q_gyes rfl rfl rfl ?_
              obtain ⟨hx44a, hx44b, a_25, hx44, h⟩ := h
              refine q_v (v := (.pointer (some (a_25.add (Int.toNat i10_21))) : Value)) (s := Instr.indexAt 22 (.slice b0_6.a b0_6.n b0_6.c : Value) (.int .i64 i10_21 : Value)) rfl rfl rfl (by kernel_rfl) (fun _ => run_ixs1 (el := 5) (by kernel_rfl) (by kernel_rfl) hx44 hx44a hx44b) ?_
              refine q_gyes rfl rfl rfl ?_
              obtain ⟨t71_26, hx45, h⟩ := h
              refine q_v (v := (.int .u8 t71_26 : Value)) (s := Instr.loadAt 5 (.pointer (some (a_25.add (Int.toNat i10_21))))) rfl rfl rfl (by kernel_rfl) (fun _ => rn_load (by kernel_rfl) hx45) ?_
              refine q_gyes rfl rfl rfl ?_
              refine q_k (.bool ((t67_24 != t71_26)) : Value) rfl rfl rfl (fun _ => by kernel_rfl) ?_
              refine q_k (.bool ((t67_24 != t71_26)) : Value) rfl rfl rfl (fun _ => by kernel_rfl) ?_
              refine q_k (.bool ((t67_24 != t71_26)) : Value) rfl rfl rfl (fun _ => by kernel_rfl) ?_
              refine q_fork ((t67_24 != t71_26)) (fun hb46 => ?_) (fun hb46 => ?_)
              · replace h := h.1 (bne_iff_ne.mp hb46)
                refine q_frame (upd_id (i := 74) (v := .bool true) rfl (congrArg Value.bool hb46)) ?_
                refine q_gno rfl rfl rfl rfl ?_
                refine q_gno rfl rfl rfl rfl ?_
                refine q_gno rfl rfl rfl rfl ?_
                refine q_gno rfl rfl rfl rfl ?_
                refine q_gno rfl rfl rfl rfl ?_
                refine q_gud rfl rfl rfl rfl ?_
                refine q_gud rfl rfl rfl rfl ?_
                refine q_gud rfl rfl rfl rfl ?_
                refine q_gud rfl rfl rfl rfl ?_
                refine q_gud rfl rfl rfl rfl ?_
                refine q_gno rfl rfl rfl rfl ?_
                refine q_k (.bool true : Value) rfl rfl rfl (fun _ => by kernel_rfl) ?_
                refine q_nil (hQq40 _ fun m48 => ?_)
                replace h := h _ ⟨m48, rfl⟩
                generalize w_22.drewN m48 = w_27 at h ⊢
                refine y_then (hK39 _ _ ?_)
                refine y_cond_t rfl rfl ?_
                refine y_seq fun K47 hK47 => ?_
                refine y_region ?_
                refine y_k (.bool false : Value) w_27 rfl rfl rfl (by kernel_rfl) ?_
                refine y_nil ?_
                refine y_then (hK47 _ _ ?_)
                refine y_ret ?_
                repeat (first | refine e_then_r ?_ | refine e_block_r ?_)
                exact (hQ0 _ _ _ (res1 (v := (.bool false : Value)) rfl rfl rfl) ⟨_, rfl, h⟩).1
              · replace h := h.2 (bne_eq_false_iff_eq.mp hb46)
                refine q_frame (upd_id (i := 74) (v := .bool false) rfl (congrArg Value.bool hb46)) ?_
                refine q_gyes rfl rfl rfl ?_
                refine q_k (.int .i64 i10_21 : Value) rfl rfl rfl (fun _ => by kernel_rfl) ?_
                refine q_gyes rfl rfl rfl ?_
                refine q_k (.slice b0_6.a b0_6.n b0_6.c : Value) rfl rfl rfl (fun _ => by kernel_rfl) ?_
                refine q_gyes rfl rfl rfl ?_
                refine q_k (.int .i64 ((b0_6.n : Int)) : Value) rfl rfl rfl (fun _ => by kernel_rfl) ?_
                refine q_gyes rfl rfl rfl ?_
                refine q_k (.bool (decide (i10_21 ≥ ((b0_6.n : Int)))) : Value) rfl rfl rfl (fun _ => by kernel_rfl) ?_
                refine q_gyes rfl rfl rfl ?_
                refine q_k (.bool (decide (i10_21 ≥ ((b0_6.n : Int)))) : Value) rfl rfl rfl (fun _ => by kernel_rfl) ?_
                refine q_fork (decide (i10_21 ≥ ((b0_6.n : Int)))) (fun hb49 => ?_) (fun hb49 => ?_)
                · replace h := h.1 (of_decide_eq_true hb49)
                  refine q_frame (upd_id (i := 79) (v := .bool true) rfl (congrArg Value.bool hb49)) ?_
                  refine q_gyes rfl rfl rfl ?_
                  refine q_k (.slice t25_8.a t25_8.n t25_8.c : Value) rfl rfl rfl (fun _ => by kernel_rfl) ?_
                  refine q_gyes rfl rfl rfl ?_
                  refine q_k (.int .i64 i10_21 : Value) rfl rfl rfl (fun _ => by kernel_rfl) ?_
                  refine q_gyes rfl rfl rfl ?_
                  obtain ⟨hx50a, hx50b, a_28, hx50, h⟩ := h
                  refine q_v (v := (.pointer (some (a_28.add (Int.toNat i10_21))) : Value)) (s := Instr.indexAt 22 (.slice t25_8.a t25_8.n t25_8.c : Value) (.int .i64 i10_21 : Value)) rfl rfl rfl (by kernel_rfl) (fun _ => run_ixs1 (el := 5) (by kernel_rfl) (by kernel_rfl) hx50 hx50a hx50b) ?_
                  refine q_gyes rfl rfl rfl ?_
                  obtain ⟨t83_29, hx51, h⟩ := h
                  refine q_v (v := (.int .u8 t83_29 : Value)) (s := Instr.loadAt 5 (.pointer (some (a_28.add (Int.toNat i10_21))))) rfl rfl rfl (by kernel_rfl) (fun _ => rn_load (by kernel_rfl) hx51) ?_
                  refine q_gyes rfl rfl rfl ?_
                  refine q_k (.bool ((t83_29 != 255)) : Value) rfl rfl rfl (fun _ => by kernel_rfl) ?_
                  refine q_gyes rfl rfl rfl ?_
                  refine q_k (.bool ((t83_29 != 255)) : Value) rfl rfl rfl (fun _ => by kernel_rfl) ?_
                  refine q_k (.bool ((t83_29 != 255)) : Value) rfl rfl rfl (fun _ => by kernel_rfl) ?_
                  refine q_nil (hQq40 _ fun m56 => ?_)
                  replace h := h _ ⟨m56, rfl⟩
                  generalize w_22.drewN m56 = w_30 at h ⊢
                  refine y_then (hK39 _ _ ?_)
                  refine y_cond ((t83_29 != 255)) rfl rfl (fun hb55 => ?_) (fun hb55 => ?_)
                  · replace h := h.1 (bne_iff_ne.mp hb55)
                    refine y_seq fun K52 hK52 => ?_
                    refine y_region ?_
                    refine y_k (.bool false : Value) w_30 rfl rfl rfl (by kernel_rfl) ?_
                    refine y_nil ?_
                    refine y_then (hK52 _ _ ?_)
                    refine y_ret ?_
                    repeat (first | refine e_then_r ?_ | refine e_block_r ?_)
                    exact (hQ0 _ _ _ (res1 (v := (.bool false : Value)) rfl rfl rfl) ⟨_, rfl, h⟩).1
                  · replace h := h.2 (bne_eq_false_iff_eq.mp hb55)
                    refine y_skip ?_
                    refine y_then (hK38 _ _ ?_)
                    refine y_region ?_
                    refine y_k (.slice t25_8.a t25_8.n t25_8.c : Value) w_30 rfl rfl rfl (by kernel_rfl) ?_
                    refine y_k (.int .i64 i10_21 : Value) w_30 rfl rfl rfl (by kernel_rfl) ?_
                    obtain ⟨hx53a, hx53b, a_31, hx53, h⟩ := h
                    refine y_v (v := (.pointer (some (a_31.add (Int.toNat i10_21))) : Value)) (s := Instr.indexAt 22 (.slice t25_8.a t25_8.n t25_8.c : Value) (.int .i64 i10_21 : Value)) rfl rfl rfl (by kernel_rfl) (run_ixs1 (el := 5) (by kernel_rfl) (by kernel_rfl) hx53 hx53a hx53b) ?_
                    obtain ⟨hx54, h⟩ := h
                    replace h := h _ rfl
                    refine y_u (s := Instr.storeAt 5 (.pointer (some (a_31.add (Int.toNat i10_21)))) (.int .u8 85 : Value)) rfl rfl (by kernel_rfl) (rn_store1 (by kernel_rfl) rfl hx54) ?_
                    generalize w_30.setCell (a_31.add (Int.toNat i10_21)) (.int .u8 85 : Value) = w_32 at h ⊢
                    refine y_nil ?_
                    refine e_block_n ?_
                    refine y_then (hK36 _ _ ?_)
                    refine y_region ?_
                    refine y_k (.int .i64 i10_21 : Value) w_32 rfl rfl rfl (by kernel_rfl) ?_
                    refine y_k (.int .i64 (IntKind.i64.wrap (i10_21 + 1)) : Value) w_32 rfl rfl rfl (by kernel_rfl) ?_
                    refine y_k (.int .i64 (IntKind.i64.wrap (i10_21 + 1)) : Value) w_32 rfl rfl rfl (by kernel_rfl) ?_
                    refine y_nil ?_
                    refine y_then (hN33 (IntKind.i64.wrap (i10_21 + 1)) _ _ h ?_)
                    dsimp only
                    refine upd_id ?_ rfl
                    refine upd_id ?_ rfl
                    refine upd_id ?_ rfl
                    refine upd_id ?_ rfl
                    refine upd_id ?_ rfl
                    refine upd_id ?_ rfl
                    rfl
                · replace h := h.2 (of_decide_eq_false hb49)
                  refine q_frame (upd_id (i := 79) (v := .bool false) rfl (congrArg Value.bool hb49)) ?_
                  refine q_gno rfl rfl rfl rfl ?_
                  refine q_gno rfl rfl rfl rfl ?_
                  refine q_gno rfl rfl rfl rfl ?_
                  refine q_gno rfl rfl rfl rfl ?_
                  refine q_gno rfl rfl rfl rfl ?_
                  refine q_gyes rfl rfl rfl ?_
                  refine q_k (.bool false : Value) rfl rfl rfl (fun _ => by kernel_rfl) ?_
                  refine q_k (.bool false : Value) rfl rfl rfl (fun _ => by kernel_rfl) ?_
                  refine q_nil (hQq40 _ fun m59 => ?_)
                  replace h := h _ ⟨m59, rfl⟩
                  generalize w_22.drewN m59 = w_33 at h ⊢
                  refine y_then (hK39 _ _ ?_)
                  refine y_cond_f rfl rfl ?_
                  refine y_skip ?_
                  refine y_then (hK38 _ _ ?_)
                  refine y_region ?_
                  refine y_k (.slice t25_8.a t25_8.n t25_8.c : Value) w_33 rfl rfl rfl (by kernel_rfl) ?_
                  refine y_k (.int .i64 i10_21 : Value) w_33 rfl rfl rfl (by kernel_rfl) ?_
                  obtain ⟨hx57a, hx57b, a_34, hx57, h⟩ := h
                  refine y_v (v := (.pointer (some (a_34.add (Int.toNat i10_21))) : Value)) (s := Instr.indexAt 22 (.slice t25_8.a t25_8.n t25_8.c : Value) (.int .i64 i10_21 : Value)) rfl rfl rfl (by kernel_rfl) (run_ixs1 (el := 5) (by kernel_rfl) (by kernel_rfl) hx57 hx57a hx57b) ?_
                  obtain ⟨hx58, h⟩ := h
                  replace h := h _ rfl
                  refine y_u (s := Instr.storeAt 5 (.pointer (some (a_34.add (Int.toNat i10_21)))) (.int .u8 85 : Value)) rfl rfl (by kernel_rfl) (rn_store1 (by kernel_rfl) rfl hx58) ?_
                  generalize w_33.setCell (a_34.add (Int.toNat i10_21)) (.int .u8 85 : Value) = w_35 at h ⊢
                  refine y_nil ?_
                  refine e_block_n ?_
                  refine y_then (hK36 _ _ ?_)
                  refine y_region ?_
                  refine y_k (.int .i64 i10_21 : Value) w_35 rfl rfl rfl (by kernel_rfl) ?_
                  refine y_k (.int .i64 (IntKind.i64.wrap (i10_21 + 1)) : Value) w_35 rfl rfl rfl (by kernel_rfl) ?_
                  refine y_k (.int .i64 (IntKind.i64.wrap (i10_21 + 1)) : Value) w_35 rfl rfl rfl (by kernel_rfl) ?_
                  refine y_nil ?_
                  refine y_then (hN33 (IntKind.i64.wrap (i10_21 + 1)) _ _ h ?_)
                  dsimp only
                  refine upd_id ?_ rfl
                  refine upd_id ?_ rfl
                  refine upd_id ?_ rfl
                  refine upd_id ?_ rfl
                  refine upd_id ?_ rfl
                  refine upd_id ?_ rfl
                  rfl
            · replace h := h.2 (of_decide_eq_false hb41)
              refine q_frame (upd_id (i := 63) (v := .bool false) rfl (congrArg Value.bool hb41)) ?_
              refine q_gno rfl rfl rfl rfl ?_
              refine q_gno rfl rfl rfl rfl ?_
              refine q_gno rfl rfl rfl rfl ?_
              refine q_gno rfl rfl rfl rfl ?_
              refine q_gno rfl rfl rfl rfl ?_
              refine q_gno rfl rfl rfl rfl ?_
              refine q_gno rfl rfl rfl rfl ?_
              refine q_gno rfl rfl rfl rfl ?_
              refine q_gno rfl rfl rfl rfl ?_
              refine q_k (.bool false : Value) rfl rfl rfl (fun _ => by kernel_rfl) ?_
              refine q_k (.bool false : Value) rfl rfl rfl (fun _ => by kernel_rfl) ?_
              refine q_gyes rfl rfl rfl ?_
              refine q_k (.int .i64 i10_21 : Value) rfl rfl rfl (fun _ => by kernel_rfl) ?_
              refine q_gyes rfl rfl rfl ?_
              refine q_k (.slice b0_6.a b0_6.n b0_6.c : Value) rfl rfl rfl (fun _ => by kernel_rfl) ?_
              refine q_gyes rfl rfl rfl ?_
              refine q_k (.int .i64 ((b0_6.n : Int)) : Value) rfl rfl rfl (fun _ => by kernel_rfl) ?_
              refine q_gyes rfl rfl rfl ?_
              refine q_k (.bool (decide (i10_21 ≥ ((b0_6.n : Int)))) : Value) rfl rfl rfl (fun _ => by kernel_rfl) ?_
              refine q_gyes rfl rfl rfl ?_
              refine q_k (.bool (decide (i10_21 ≥ ((b0_6.n : Int)))) : Value) rfl rfl rfl (fun _ => by kernel_rfl) ?_
              refine q_fork (decide (i10_21 ≥ ((b0_6.n : Int)))) (fun hb60 => ?_) (fun hb60 => ?_)
              · replace h := h.1 (of_decide_eq_true hb60)
                refine q_frame (upd_id (i := 79) (v := .bool true) rfl (congrArg Value.bool hb60)) ?_
                refine q_gyes rfl rfl rfl ?_
                refine q_k (.slice t25_8.a t25_8.n t25_8.c : Value) rfl rfl rfl (fun _ => by kernel_rfl) ?_
                refine q_gyes rfl rfl rfl ?_
                refine q_k (.int .i64 i10_21 : Value) rfl rfl rfl (fun _ => by kernel_rfl) ?_
                refine q_gyes rfl rfl rfl ?_
                obtain ⟨hx61a, hx61b, a_36, hx61, h⟩ := h
                refine q_v (v := (.pointer (some (a_36.add (Int.toNat i10_21))) : Value)) (s := Instr.indexAt 22 (.slice t25_8.a t25_8.n t25_8.c : Value) (.int .i64 i10_21 : Value)) rfl rfl rfl (by kernel_rfl) (fun _ => run_ixs1 (el := 5) (by kernel_rfl) (by kernel_rfl) hx61 hx61a hx61b) ?_
                refine q_gyes rfl rfl rfl ?_
                obtain ⟨t83_37, hx62, h⟩ := h
                refine q_v (v := (.int .u8 t83_37 : Value)) (s := Instr.loadAt 5 (.pointer (some (a_36.add (Int.toNat i10_21))))) rfl rfl rfl (by kernel_rfl) (fun _ => rn_load (by kernel_rfl) hx62) ?_
                refine q_gyes rfl rfl rfl ?_
                refine q_k (.bool ((t83_37 != 255)) : Value) rfl rfl rfl (fun _ => by kernel_rfl) ?_
                refine q_gyes rfl rfl rfl ?_
                refine q_k (.bool ((t83_37 != 255)) : Value) rfl rfl rfl (fun _ => by kernel_rfl) ?_
                refine q_k (.bool ((t83_37 != 255)) : Value) rfl rfl rfl (fun _ => by kernel_rfl) ?_
                refine q_nil (hQq40 _ fun m67 => ?_)
                replace h := h _ ⟨m67, rfl⟩
                generalize w_22.drewN m67 = w_38 at h ⊢
                refine y_then (hK39 _ _ ?_)
                refine y_cond ((t83_37 != 255)) rfl rfl (fun hb66 => ?_) (fun hb66 => ?_)
                · replace h := h.1 (bne_iff_ne.mp hb66)
                  refine y_seq fun K63 hK63 => ?_
                  refine y_region ?_
                  refine y_k (.bool false : Value) w_38 rfl rfl rfl (by kernel_rfl) ?_
                  refine y_nil ?_
                  refine y_then (hK63 _ _ ?_)
                  refine y_ret ?_
                  repeat (first | refine e_then_r ?_ | refine e_block_r ?_)
                  exact (hQ0 _ _ _ (res1 (v := (.bool false : Value)) rfl rfl rfl) ⟨_, rfl, h⟩).1
                · replace h := h.2 (bne_eq_false_iff_eq.mp hb66)
                  refine y_skip ?_
                  refine y_then (hK38 _ _ ?_)
                  refine y_region ?_
                  refine y_k (.slice t25_8.a t25_8.n t25_8.c : Value) w_38 rfl rfl rfl (by kernel_rfl) ?_
                  refine y_k (.int .i64 i10_21 : Value) w_38 rfl rfl rfl (by kernel_rfl) ?_
                  obtain ⟨hx64a, hx64b, a_39, hx64, h⟩ := h
                  refine y_v (v := (.pointer (some (a_39.add (Int.toNat i10_21))) : Value)) (s := Instr.indexAt 22 (.slice t25_8.a t25_8.n t25_8.c : Value) (.int .i64 i10_21 : Value)) rfl rfl rfl (by kernel_rfl) (run_ixs1 (el := 5) (by kernel_rfl) (by kernel_rfl) hx64 hx64a hx64b) ?_
                  obtain ⟨hx65, h⟩ := h
                  replace h := h _ rfl
                  refine y_u (s := Instr.storeAt 5 (.pointer (some (a_39.add (Int.toNat i10_21)))) (.int .u8 85 : Value)) rfl rfl (by kernel_rfl) (rn_store1 (by kernel_rfl) rfl hx65) ?_
                  generalize w_38.setCell (a_39.add (Int.toNat i10_21)) (.int .u8 85 : Value) = w_40 at h ⊢
                  refine y_nil ?_
                  refine e_block_n ?_
                  refine y_then (hK36 _ _ ?_)
                  refine y_region ?_
                  refine y_k (.int .i64 i10_21 : Value) w_40 rfl rfl rfl (by kernel_rfl) ?_
                  refine y_k (.int .i64 (IntKind.i64.wrap (i10_21 + 1)) : Value) w_40 rfl rfl rfl (by kernel_rfl) ?_
                  refine y_k (.int .i64 (IntKind.i64.wrap (i10_21 + 1)) : Value) w_40 rfl rfl rfl (by kernel_rfl) ?_
                  refine y_nil ?_
                  refine y_then (hN33 (IntKind.i64.wrap (i10_21 + 1)) _ _ h ?_)
                  dsimp only
                  refine upd_id ?_ rfl
                  refine upd_id ?_ rfl
                  refine upd_id ?_ rfl
                  refine upd_id ?_ rfl
                  refine upd_id ?_ rfl
                  refine upd_id ?_ rfl
                  rfl
              · replace h := h.2 (of_decide_eq_false hb60)
                refine q_frame (upd_id (i := 79) (v := .bool false) rfl (congrArg Value.bool hb60)) ?_
                refine q_gno rfl rfl rfl rfl ?_
                refine q_gno rfl rfl rfl rfl ?_
                refine q_gno rfl rfl rfl rfl ?_
                refine q_gno rfl rfl rfl rfl ?_
                refine q_gno rfl rfl rfl rfl ?_
                refine q_gyes rfl rfl rfl ?_
                refine q_k (.bool false : Value) rfl rfl rfl (fun _ => by kernel_rfl) ?_
                refine q_k (.bool false : Value) rfl rfl rfl (fun _ => by kernel_rfl) ?_
                refine q_nil (hQq40 _ fun m70 => ?_)
                replace h := h _ ⟨m70, rfl⟩
                generalize w_22.drewN m70 = w_41 at h ⊢
                refine y_then (hK39 _ _ ?_)
                refine y_cond_f rfl rfl ?_
                refine y_skip ?_
                refine y_then (hK38 _ _ ?_)
                refine y_region ?_
                refine y_k (.slice t25_8.a t25_8.n t25_8.c : Value) w_41 rfl rfl rfl (by kernel_rfl) ?_
                refine y_k (.int .i64 i10_21 : Value) w_41 rfl rfl rfl (by kernel_rfl) ?_
                obtain ⟨hx68a, hx68b, a_42, hx68, h⟩ := h
                refine y_v (v := (.pointer (some (a_42.add (Int.toNat i10_21))) : Value)) (s := Instr.indexAt 22 (.slice t25_8.a t25_8.n t25_8.c : Value) (.int .i64 i10_21 : Value)) rfl rfl rfl (by kernel_rfl) (run_ixs1 (el := 5) (by kernel_rfl) (by kernel_rfl) hx68 hx68a hx68b) ?_
                obtain ⟨hx69, h⟩ := h
                replace h := h _ rfl
                refine y_u (s := Instr.storeAt 5 (.pointer (some (a_42.add (Int.toNat i10_21)))) (.int .u8 85 : Value)) rfl rfl (by kernel_rfl) (rn_store1 (by kernel_rfl) rfl hx69) ?_
                generalize w_41.setCell (a_42.add (Int.toNat i10_21)) (.int .u8 85 : Value) = w_43 at h ⊢
                refine y_nil ?_
                refine e_block_n ?_
                refine y_then (hK36 _ _ ?_)
                refine y_region ?_
                refine y_k (.int .i64 i10_21 : Value) w_43 rfl rfl rfl (by kernel_rfl) ?_
                refine y_k (.int .i64 (IntKind.i64.wrap (i10_21 + 1)) : Value) w_43 rfl rfl rfl (by kernel_rfl) ?_
                refine y_k (.int .i64 (IntKind.i64.wrap (i10_21 + 1)) : Value) w_43 rfl rfl rfl (by kernel_rfl) ?_
                refine y_nil ?_
                refine y_then (hN33 (IntKind.i64.wrap (i10_21 + 1)) _ _ h ?_)
                dsimp only
                refine upd_id ?_ rfl
                refine upd_id ?_ rfl
                refine upd_id ?_ rfl
                refine upd_id ?_ rfl
                refine upd_id ?_ rfl
                refine upd_id ?_ rfl
                rfl
          · replace h := h.2 (of_decide_eq_false hb96)
            refine y_exit ?_
            repeat (first | refine e_then_x ?_ | refine e_block_y rfl ?_)
            refine e_block_x ?_
            refine y_then (hK29 _ _ ?_)
            refine y_seq fun K71 hK71 => ?_
            refine y_seq fun K72 hK72 => ?_
            refine y_region ?_
            refine y_k (.int .i64 0 : Value) w_22 rfl rfl rfl (by kernel_rfl) ?_
            refine y_nil ?_
            refine y_then (hK72 _ _ ?_)
            refine y_block ?_
            refine y_loop (S := Int) (fun s j => match s with | (i11_44) => upd (upd (upd (upd (j) 1 (.slice asks1_2.a asks1_2.n asks1_2.c : Value)) 8 (.pointer t44_17 : Value)) 9 (.pointer t46_19 : Value)) 11 (.int .i64 i11_44 : Value)) (0) ?_ h ?_
            · dsimp only
              refine upd_id ?_ rfl
              refine upd_id ?_ rfl
              refine upd_id ?_ rfl
              refine upd_id ?_ rfl
              rfl
            rintro KN75 next74 hN75 i11_44 j w_45 h
            unfold F8_l4 at h
            refine y_seq fun K76 hK76 => ?_
            refine y_seq fun K77 hK77 => ?_
            refine y_region ?_
            refine y_k (.int .i64 i11_44 : Value) w_45 rfl rfl rfl (by kernel_rfl) ?_
            refine y_k (.slice asks1_2.a asks1_2.n asks1_2.c : Value) w_45 rfl rfl rfl (by kernel_rfl) ?_
            refine y_k (.int .i64 ((asks1_2.n : Int)) : Value) w_45 rfl rfl rfl (by kernel_rfl) ?_
            refine y_k (.bool (decide (i11_44 < ((asks1_2.n : Int)))) : Value) w_45 rfl rfl rfl (by kernel_rfl) ?_
            refine y_nil ?_
            refine y_then (hK77 _ _ ?_)
            refine y_cond (decide (i11_44 < ((asks1_2.n : Int)))) rfl rfl (fun hb95 => ?_) (fun hb95 => ?_)
            · replace h := h.1 (of_decide_eq_true hb95)
              refine y_skip ?_
              refine y_then (hK76 _ _ ?_)
              refine y_seq fun K78 hK78 => ?_
              refine y_block ?_
              refine y_seq fun K80 hK80 => ?_
              refine y_region ?_
              refine y_k (.pointer t44_17 : Value) w_45 rfl rfl rfl (by kernel_rfl) ?_
              refine y_k (.slice asks1_2.a asks1_2.n asks1_2.c : Value) w_45 rfl rfl rfl (by kernel_rfl) ?_
              refine y_k (.int .i64 i11_44 : Value) w_45 rfl rfl rfl (by kernel_rfl) ?_
              obtain ⟨hx81a, hx81b, a_46, hx81, h⟩ := h
              refine y_v (v := (.pointer (some (a_46.add (Int.toNat i11_44))) : Value)) (s := Instr.indexAt 71 (.slice asks1_2.a asks1_2.n asks1_2.c : Value) (.int .i64 i11_44 : Value)) rfl rfl rfl (by kernel_rfl) (run_ixs1 (el := 3) (by kernel_rfl) (by kernel_rfl) hx81 hx81a hx81b) ?_
              obtain ⟨t101_47, hx82, h⟩ := h
              refine y_v (s := Instr.loadAt 3 (.pointer (some (a_46.add (Int.toNat i11_44))))) rfl rfl rfl (by kernel_rfl) (rn_load (by kernel_rfl) hx82) ?_
              refine y_call rfl rfl rfl (by kernel_rfl) (h.mono ?_)
              rintro _ w_50 ⟨t102_48, t102_49, rfl, h⟩
              refine ⟨_, rfl, ?_⟩
              refine y_k (.tuple #[.int .u64 t102_48, .bool t102_49] : Value) w_50 rfl rfl rfl (by kernel_rfl) ?_
              refine y_k (.int .u64 t102_48 : Value) w_50 rfl rfl rfl (by kernel_rfl) ?_
              refine y_k (.bool t102_49 : Value) w_50 rfl rfl rfl (by kernel_rfl) ?_
              refine y_k (.int .u64 t102_48 : Value) w_50 rfl rfl rfl (by kernel_rfl) ?_
              refine y_k (.bool t102_49 : Value) w_50 rfl rfl rfl (by kernel_rfl) ?_
              refine y_nil ?_
              refine y_then (hK80 _ _ ?_)
              refine y_seq fun K83 hK83 => ?_
              refine y_region ?_
              refine y_k (.pointer t46_19 : Value) w_50 rfl rfl rfl (by kernel_rfl) ?_
              refine y_k (.slice asks1_2.a asks1_2.n asks1_2.c : Value) w_50 rfl rfl rfl (by kernel_rfl) ?_
              refine y_k (.int .i64 i11_44 : Value) w_50 rfl rfl rfl (by kernel_rfl) ?_
              obtain ⟨hx84a, hx84b, a_51, hx84, h⟩ := h
              refine y_v (v := (.pointer (some (a_51.add (Int.toNat i11_44))) : Value)) (s := Instr.indexAt 71 (.slice asks1_2.a asks1_2.n asks1_2.c : Value) (.int .i64 i11_44 : Value)) rfl rfl rfl (by kernel_rfl) (run_ixs1 (el := 3) (by kernel_rfl) (by kernel_rfl) hx84 hx84a hx84b) ?_
              obtain ⟨t110_52, hx85, h⟩ := h
              refine y_v (s := Instr.loadAt 3 (.pointer (some (a_51.add (Int.toNat i11_44))))) rfl rfl rfl (by kernel_rfl) (rn_load (by kernel_rfl) hx85) ?_
              refine y_call rfl rfl rfl (by kernel_rfl) (h.mono ?_)
              rintro _ w_55 ⟨t111_53, t111_54, rfl, h⟩
              refine ⟨_, rfl, ?_⟩
              refine y_k (.tuple #[.int .u64 t111_53, .bool t111_54] : Value) w_55 rfl rfl rfl (by kernel_rfl) ?_
              refine y_k (.int .u64 t111_53 : Value) w_55 rfl rfl rfl (by kernel_rfl) ?_
              refine y_k (.bool t111_54 : Value) w_55 rfl rfl rfl (by kernel_rfl) ?_
              refine y_k (.int .u64 t111_53 : Value) w_55 rfl rfl rfl (by kernel_rfl) ?_
              refine y_k (.bool t111_54 : Value) w_55 rfl rfl rfl (by kernel_rfl) ?_
              refine y_nil ?_
              refine y_then (hK83 _ _ ?_)
              refine y_seq fun K86 hK86 => ?_
              refine y_region ?_
              refine y_k (.int .u64 t102_48 : Value) w_55 rfl rfl rfl (by kernel_rfl) ?_
              refine y_k (.int .u64 t111_53 : Value) w_55 rfl rfl rfl (by kernel_rfl) ?_
              refine y_k (.bool ((t102_48 != t111_53)) : Value) w_55 rfl rfl rfl (by kernel_rfl) ?_
              refine y_k (.bool ((t102_48 != t111_53)) : Value) w_55 rfl rfl rfl (by kernel_rfl) ?_
              refine y_fork ((t102_48 != t111_53)) (fun hb87 => ?_) (fun hb87 => ?_)
              · replace h := h.1 (bne_iff_ne.mp hb87)
                refine y_frame (upd_id (i := 117) (v := .bool true) rfl (congrArg Value.bool hb87)) ?_
                refine y_gno rfl rfl rfl rfl ?_
                refine y_gno rfl rfl rfl rfl ?_
                refine y_gno rfl rfl rfl rfl ?_
                refine y_k (.bool true : Value) w_55 rfl rfl rfl (by kernel_rfl) ?_
                refine y_k (.bool true : Value) w_55 rfl rfl rfl (by kernel_rfl) ?_
                refine y_gno rfl rfl rfl rfl ?_
                refine y_gno rfl rfl rfl rfl ?_
                refine y_gno rfl rfl rfl rfl ?_
                refine y_gno rfl rfl rfl rfl ?_
                refine y_gno rfl rfl rfl rfl ?_
                refine y_k (.bool true : Value) w_55 rfl rfl rfl (by kernel_rfl) ?_
                refine y_nil ?_
                refine y_then (hK86 _ _ ?_)
                refine y_cond_t rfl rfl ?_
                refine y_seq fun K88 hK88 => ?_
                refine y_region ?_
                refine y_k (.bool false : Value) w_55 rfl rfl rfl (by kernel_rfl) ?_
                refine y_nil ?_
                refine y_then (hK88 _ _ ?_)
                refine y_ret ?_
                repeat (first | refine e_then_r ?_ | refine e_block_r ?_)
                exact (hQ0 _ _ _ (res1 (v := (.bool false : Value)) rfl rfl rfl) ⟨_, rfl, h⟩).1
              · replace h := h.2 (bne_eq_false_iff_eq.mp hb87)
                refine y_frame (upd_id (i := 117) (v := .bool false) rfl (congrArg Value.bool hb87)) ?_
                refine y_gyes rfl rfl rfl ?_
                refine y_k (.bool t102_49 : Value) w_55 rfl rfl rfl (by kernel_rfl) ?_
                refine y_gyes rfl rfl rfl ?_
                refine y_k (.bool t111_54 : Value) w_55 rfl rfl rfl (by kernel_rfl) ?_
                refine y_gyes rfl rfl rfl ?_
                obtain ⟨t120_56, hx89, h⟩ := h
                refine y_v (s := do eqGuard .neq 4 (Operand.tmp 118) (Operand.tmp 119) (.bool t102_49 : Value) (.bool t111_54 : Value); binOp .neq 4 (.bool t102_49 : Value) (.bool t111_54 : Value)) rfl rfl rfl (by kernel_rfl) (hx89) ?_
                refine y_k (.bool t120_56 : Value) w_55 rfl rfl rfl (by kernel_rfl) ?_
                refine y_k (.bool t120_56 : Value) w_55 rfl rfl rfl (by kernel_rfl) ?_
                refine y_fork (t120_56) (fun hb90 => ?_) (fun hb90 => ?_)
                · replace h := h.1 (hb90)
                  refine y_frame (upd_id (i := 122) (v := .bool true) rfl (congrArg Value.bool hb90)) ?_
                  refine y_gno rfl rfl rfl rfl ?_
                  refine y_gno rfl rfl rfl rfl ?_
                  refine y_gno rfl rfl rfl rfl ?_
                  refine y_gno rfl rfl rfl rfl ?_
                  refine y_gno rfl rfl rfl rfl ?_
                  refine y_k (.bool true : Value) w_55 rfl rfl rfl (by kernel_rfl) ?_
                  refine y_nil ?_
                  refine y_then (hK86 _ _ ?_)
                  refine y_cond_t rfl rfl ?_
                  refine y_seq fun K91 hK91 => ?_
                  refine y_region ?_
                  refine y_k (.bool false : Value) w_55 rfl rfl rfl (by kernel_rfl) ?_
                  refine y_nil ?_
                  refine y_then (hK91 _ _ ?_)
                  refine y_ret ?_
                  repeat (first | refine e_then_r ?_ | refine e_block_r ?_)
                  exact (hQ0 _ _ _ (res1 (v := (.bool false : Value)) rfl rfl rfl) ⟨_, rfl, h⟩).1
                · replace h := h.2 (hb90)
                  refine y_frame (upd_id (i := 122) (v := .bool false) rfl (congrArg Value.bool hb90)) ?_
                  refine y_gyes rfl rfl rfl ?_
                  refine y_k (.pointer t44_17 : Value) w_55 rfl rfl rfl (by kernel_rfl) ?_
                  refine y_gyes rfl rfl rfl ?_
                  refine y_call rfl rfl rfl (by kernel_rfl) (h.mono ?_)
                  rintro _ w_58 ⟨t124_57, rfl, h⟩
                  refine ⟨_, rfl, ?_⟩
                  refine y_gyes rfl rfl rfl ?_
                  refine y_k (.pointer t46_19 : Value) w_58 rfl rfl rfl (by kernel_rfl) ?_
                  refine y_gyes rfl rfl rfl ?_
                  refine y_call rfl rfl rfl (by kernel_rfl) (h.mono ?_)
                  rintro _ w_60 ⟨t126_59, rfl, h⟩
                  refine ⟨_, rfl, ?_⟩
                  refine y_gyes rfl rfl rfl ?_
                  refine y_k (.bool ((t124_57 != t126_59)) : Value) w_60 rfl rfl rfl (by kernel_rfl) ?_
                  refine y_k (.bool ((t124_57 != t126_59)) : Value) w_60 rfl rfl rfl (by kernel_rfl) ?_
                  refine y_nil ?_
                  refine y_then (hK86 _ _ ?_)
                  refine y_cond ((t124_57 != t126_59)) rfl rfl (fun hb93 => ?_) (fun hb93 => ?_)
                  · replace h := h.1 (bne_iff_ne.mp hb93)
                    refine y_seq fun K92 hK92 => ?_
                    refine y_region ?_
                    refine y_k (.bool false : Value) w_60 rfl rfl rfl (by kernel_rfl) ?_
                    refine y_nil ?_
                    refine y_then (hK92 _ _ ?_)
                    refine y_ret ?_
                    repeat (first | refine e_then_r ?_ | refine e_block_r ?_)
                    exact (hQ0 _ _ _ (res1 (v := (.bool false : Value)) rfl rfl rfl) ⟨_, rfl, h⟩).1
                  · replace h := h.2 (bne_eq_false_iff_eq.mp hb93)
                    refine y_skip ?_
                    refine e_block_n ?_
                    refine y_then (hK78 _ _ ?_)
                    refine y_region ?_
                    refine y_k (.int .i64 i11_44 : Value) w_60 rfl rfl rfl (by kernel_rfl) ?_
                    refine y_k (.int .i64 (IntKind.i64.wrap (i11_44 + 1)) : Value) w_60 rfl rfl rfl (by kernel_rfl) ?_
                    refine y_k (.int .i64 (IntKind.i64.wrap (i11_44 + 1)) : Value) w_60 rfl rfl rfl (by kernel_rfl) ?_
                    refine y_nil ?_
                    refine y_then (hN75 (IntKind.i64.wrap (i11_44 + 1)) _ _ h ?_)
                    dsimp only
                    refine upd_id ?_ rfl
                    refine upd_id ?_ rfl
                    refine upd_id ?_ rfl
                    refine upd_id ?_ rfl
                    rfl
            · replace h := h.2 (of_decide_eq_false hb95)
              refine y_exit ?_
              repeat (first | refine e_then_x ?_ | refine e_block_y rfl ?_)
              refine e_block_x ?_
              refine y_then (hK71 _ _ ?_)
              refine y_seq fun K94 hK94 => ?_
              refine y_region ?_
              refine y_k (.pointer t44_17 : Value) w_45 rfl rfl rfl (by kernel_rfl) ?_
              refine y_call rfl rfl rfl (by kernel_rfl) (h.mono ?_)
              rintro _ w_62 ⟨t130_61, rfl, h⟩
              refine ⟨_, rfl, ?_⟩
              refine y_k (.pointer t46_19 : Value) w_62 rfl rfl rfl (by kernel_rfl) ?_
              refine y_call rfl rfl rfl (by kernel_rfl) (h.mono ?_)
              rintro _ w_64 ⟨t132_63, rfl, h⟩
              refine ⟨_, rfl, ?_⟩
              refine y_k (.bool ((t130_61 == t132_63)) : Value) w_64 rfl rfl rfl (by kernel_rfl) ?_
              refine y_k (.bool ((t130_61 == t132_63)) : Value) w_64 rfl rfl rfl (by kernel_rfl) ?_
              refine y_nil ?_
              refine y_then (hK94 _ _ ?_)
              refine y_ret ?_
              repeat (first | refine e_then_r ?_ | refine e_block_r ?_)
              exact (hQ0 _ _ _ (res1 (v := (.bool ((t130_61 == t132_63)) : Value)) rfl rfl rfl) ⟨_, rfl, h⟩).1
  refine y_seq fun K4 hK4 => ?_
  refine y_region ?_
  refine y_k (.slice b0_1.a b0_1.n b0_1.c : Value) w_4 rfl rfl rfl (by kernel_rfl) ?_
  refine y_k (.int .i64 ((b0_1.n : Int)) : Value) w_4 rfl rfl rfl (by kernel_rfl) ?_
  refine y_k (.bool (decide (((b0_1.n : Int)) > 4000)) : Value) w_4 rfl rfl rfl (by kernel_rfl) ?_
  refine y_nil ?_
  refine y_then (hK4 _ _ ?_)
  refine y_cond (decide (((b0_1.n : Int)) > 4000)) rfl rfl (fun hb99 => ?_) (fun hb99 => ?_)
  · replace h := h.1 (of_decide_eq_true hb99)
    refine y_region ?_
    refine y_k (.slice b0_1.a b0_1.n b0_1.c : Value) w_4 rfl rfl rfl (by kernel_rfl) ?_
    obtain ⟨t21_5, hx5, h⟩ := h
    refine y_v (s := Instr.sliceAt 22 (.slice b0_1.a b0_1.n b0_1.c : Value) none (some (.int .i64 4000 : Value)) none) rfl rfl rfl (by kernel_rfl) (hx5) ?_
    refine y_k (.slice t21_5.a t21_5.n t21_5.c : Value) w_4 rfl rfl rfl (by kernel_rfl) ?_
    refine y_nil ?_
    exact y_then (hjK3 _ t21_5 w_4 rfl rfl rfl h)
  · replace h := h.2 (of_decide_eq_false hb99)
    refine y_skip ?_
    exact y_then (hjK3 _ b0_1 w_4 rfl rfl rfl h)

end Go.Proofs.Ythhcaaellhdkiaa
