/- Printed by gen.py (own program, wip/): for each Go function a predicate transformer and its soundness. -/
import Derived.Test.YtjgijifankaglaaProg
import Derived.Test.YtjgijifankaglaaST
import Derived.Test.YtjgijifankaglaaWA
namespace Go.Proofs.Ytjgijifankaglaa
open Go Go.RowKit Go.Proofs.Ytjgijifankaglaa.SX
set_option linter.unusedVariables false

noncomputable def F6_body : Code := Try.f6.body.getD .skip
def F6_l3 (lists6_7 : Sl) (i13_35 : Int) (next34 : (Int) → World → Prop) (next54 : (Int) → World → Prop) : (Int) → World → Prop := fun (k15_46) w_47 =>
  (0 : Int) ≤ i13_35 ∧ i13_35 < (lists6_7.n : Int) ∧ ∃ (a_48 : Addr), lists6_7.a = some a_48 ∧
  ∃ (t74_49 : Sl), w_47.cell? (a_48.add (Int.toNat i13_35)) = some (.slice t74_49.a t74_49.n t74_49.c) ∧
  ((k15_46 < ((t74_49.n : Int)) →
  (0 : Int) ≤ i13_35 ∧ i13_35 < (lists6_7.n : Int) ∧ ∃ (a_50 : Addr), lists6_7.a = some a_50 ∧
  ∃ (t82_51 : Sl), w_47.cell? (a_50.add (Int.toNat i13_35)) = some (.slice t82_51.a t82_51.n t82_51.c) ∧
  (0 : Int) ≤ k15_46 ∧ k15_46 < (t82_51.n : Int) ∧ ∃ (a_52 : Addr), t82_51.a = some a_52 ∧
  HasCell w_47 (a_52.add (Int.toNat k15_46)) ∧ ∀ (w_53 : World), w_53 = w_47.setCell (a_52.add (Int.toNat k15_46)) (.int .u32 9 : Value) →
  next54 (IntKind.i64.wrap (k15_46 + 1)) w_53) ∧
  (¬ (k15_46 < ((t74_49.n : Int))) →
  (0 : Int) ≤ i13_35 ∧ i13_35 < (lists6_7.n : Int) ∧ ∃ (a_54 : Addr), lists6_7.a = some a_54 ∧
  HasCell w_47 (a_54.add (Int.toNat i13_35)) ∧ ∀ (w_55 : World), w_55 = w_47.setCell (a_54.add (Int.toNat i13_35)) (.slice none 0 0 : Value) →
  next34 (IntKind.i64.wrap (i13_35 + 1)) w_55))
def F6_cut (K : Bool → World → Prop) (w : World) (w_3 : World) (t19_5 : Bool) (w_25 : World) (w_26 : World) (t50_30 : Value) (w_36 : World) (w_57 : World) : Prop :=
  ∀ f : Fr, f 3 = (.pointer (some (⟨w.heap.size, 0, none⟩ : Addr)) : Value) → f 4 = (.pointer (some (⟨w_3.heap.size, 0, none⟩ : Addr)) : Value) → f 5 = (.bool t19_5 : Value) → f 10 = (.pointer (some (⟨w_25.heap.size, 0, none⟩ : Addr)) : Value) → f 11 = (.pointer (some (⟨w_26.heap.size, 0, none⟩ : Addr)) : Value) → f 12 = t50_30 → f 16 = (.pointer (some (⟨w_36.heap.size, 0, none⟩ : Addr)) : Value) → WC Try.prog (cRs F6_body 10) (bodyPostM Fence.wide 10 Try.prog Try.f6 (fun e w1 => ∃ (r0 : Bool), e = .returned (.bool r0 : Value) ∧ K r0 w1)) 128 f w_57
def F6_l2 (K : Bool → World → Prop) (w : World) (w_3 : World) (t19_5 : Bool) (lists6_7 : Sl) (copies7_8 : Sl) (w_25 : World) (w_26 : World) (t50_30 : Value) (next34 : (Int) → World → Prop) : (Int) → World → Prop := fun (i13_35) w_36 =>
  ((i13_35 < ((lists6_7.n : Int)) →
  ∀ (w_37 : World), w_37 = w_36.drew →
  (0 : Int) ≤ i13_35 ∧ i13_35 < (lists6_7.n : Int) ∧ ∃ (a_38 : Addr), lists6_7.a = some a_38 ∧
  ∃ (t62_39 : Sl), w_37.cell? (a_38.add (Int.toNat i13_35)) = some (.slice t62_39.a t62_39.n t62_39.c) ∧
  (0 : Int) ≤ i13_35 ∧ i13_35 < (copies7_8.n : Int) ∧ ∃ (a_40 : Addr), copies7_8.a = some a_40 ∧
  ∃ (t66_41 : Sl), w_37.cell? (a_40.add (Int.toNat i13_35)) = some (.slice t66_41.a t66_41.n t66_41.c) ∧
  Calls Try.prog 30 #[.slice t62_39.a t62_39.n t62_39.c, .slice t66_41.a t66_41.n t66_41.c] w_37 fun e w_43 => ∃ (t67_42 : Bool), e = .returned (.bool t67_42 : Value) ∧ 
  ((t67_42 = false →
  HasCell w_43 (⟨w_3.heap.size, 0, none⟩ : Addr) ∧ ∀ (w_44 : World), w_44 = w_43.setCell (⟨w_3.heap.size, 0, none⟩ : Addr) (.bool false : Value) →
  ∃ (r0_45 : Bool), w_44.cell? (⟨w_3.heap.size, 0, none⟩ : Addr) = some (.bool r0_45) ∧
  K r0_45 w_44) ∧
  (t67_42 = true →
  kLoop (F6_l3 lists6_7 i13_35 next34) (0) w_43))) ∧
  (¬ (i13_35 < ((lists6_7.n : Int))) →
  ∀ (w_56 : World), w_56 = w_36.alloc (.cells #[.int .i64 0] 3) →
  HasCell w_56 (⟨w_36.heap.size, 0, none⟩ : Addr) ∧ ∀ (w_57 : World), w_57 = w_56.setCell (⟨w_36.heap.size, 0, none⟩ : Addr) (.int .i64 0 : Value) →
  F6_cut K w w_3 t19_5 w_25 w_26 t50_30 w_36 w_57))
def F6_l5 (lists6_7 : Sl) (i13_70 : Int) (next88 : (Int) → World → Prop) (next108 : (Int) → World → Prop) : (Int) → World → Prop := fun (k15_81) w_82 =>
  (0 : Int) ≤ i13_70 ∧ i13_70 < (lists6_7.n : Int) ∧ ∃ (a_83 : Addr), lists6_7.a = some a_83 ∧
  ∃ (t74_84 : Sl), w_82.cell? (a_83.add (Int.toNat i13_70)) = some (.slice t74_84.a t74_84.n t74_84.c) ∧
  ((k15_81 < ((t74_84.n : Int)) →
  (0 : Int) ≤ i13_70 ∧ i13_70 < (lists6_7.n : Int) ∧ ∃ (a_85 : Addr), lists6_7.a = some a_85 ∧
  ∃ (t82_86 : Sl), w_82.cell? (a_85.add (Int.toNat i13_70)) = some (.slice t82_86.a t82_86.n t82_86.c) ∧
  (0 : Int) ≤ k15_81 ∧ k15_81 < (t82_86.n : Int) ∧ ∃ (a_87 : Addr), t82_86.a = some a_87 ∧
  HasCell w_82 (a_87.add (Int.toNat k15_81)) ∧ ∀ (w_88 : World), w_88 = w_82.setCell (a_87.add (Int.toNat k15_81)) (.int .u32 9 : Value) →
  next108 (IntKind.i64.wrap (k15_81 + 1)) w_88) ∧
  (¬ (k15_81 < ((t74_84.n : Int))) →
  (0 : Int) ≤ i13_70 ∧ i13_70 < (lists6_7.n : Int) ∧ ∃ (a_89 : Addr), lists6_7.a = some a_89 ∧
  HasCell w_82 (a_89.add (Int.toNat i13_70)) ∧ ∀ (w_90 : World), w_90 = w_82.setCell (a_89.add (Int.toNat i13_70)) (.slice none 0 0 : Value) →
  next88 (IntKind.i64.wrap (i13_70 + 1)) w_90))
def F6_l4 (K : Bool → World → Prop) (w : World) (w_3 : World) (t19_5 : Bool) (lists6_7 : Sl) (copies7_8 : Sl) (w_60 : World) (w_61 : World) (t50_65 : Value) (next88 : (Int) → World → Prop) : (Int) → World → Prop := fun (i13_70) w_71 =>
  ((i13_70 < ((lists6_7.n : Int)) →
  ∀ (w_72 : World), w_72 = w_71.drew →
  (0 : Int) ≤ i13_70 ∧ i13_70 < (lists6_7.n : Int) ∧ ∃ (a_73 : Addr), lists6_7.a = some a_73 ∧
  ∃ (t62_74 : Sl), w_72.cell? (a_73.add (Int.toNat i13_70)) = some (.slice t62_74.a t62_74.n t62_74.c) ∧
  (0 : Int) ≤ i13_70 ∧ i13_70 < (copies7_8.n : Int) ∧ ∃ (a_75 : Addr), copies7_8.a = some a_75 ∧
  ∃ (t66_76 : Sl), w_72.cell? (a_75.add (Int.toNat i13_70)) = some (.slice t66_76.a t66_76.n t66_76.c) ∧
  Calls Try.prog 30 #[.slice t62_74.a t62_74.n t62_74.c, .slice t66_76.a t66_76.n t66_76.c] w_72 fun e w_78 => ∃ (t67_77 : Bool), e = .returned (.bool t67_77 : Value) ∧ 
  ((t67_77 = false →
  HasCell w_78 (⟨w_3.heap.size, 0, none⟩ : Addr) ∧ ∀ (w_79 : World), w_79 = w_78.setCell (⟨w_3.heap.size, 0, none⟩ : Addr) (.bool false : Value) →
  ∃ (r0_80 : Bool), w_79.cell? (⟨w_3.heap.size, 0, none⟩ : Addr) = some (.bool r0_80) ∧
  K r0_80 w_79) ∧
  (t67_77 = true →
  kLoop (F6_l5 lists6_7 i13_70 next88) (0) w_78))) ∧
  (¬ (i13_70 < ((lists6_7.n : Int))) →
  ∀ (w_91 : World), w_91 = w_71.alloc (.cells #[.int .i64 0] 3) →
  HasCell w_91 (⟨w_71.heap.size, 0, none⟩ : Addr) ∧ ∀ (w_92 : World), w_92 = w_91.setCell (⟨w_71.heap.size, 0, none⟩ : Addr) (.int .i64 0 : Value) →
  F6_cut K w w_3 t19_5 w_60 w_61 t50_65 w_71 w_92))
def F6_l1 (l0_1 : Sl) (K : Bool → World → Prop) (w : World) (w_3 : World) (t19_5 : Bool) (next8 : (Sl × Sl × Int) → World → Prop) : (Sl × Sl × Int) → World → Prop := fun (lists6_7, copies7_8, i8_9) w_10 =>
  ((i8_9 < ((l0_1.n : Int)) →
  ((i8_9 < 9 →
  (0 : Int) ≤ i8_9 ∧ i8_9 < (l0_1.n : Int) ∧ ∃ (a_11 : Addr), l0_1.a = some a_11 ∧
  ∃ (t33_12 : Sl), w_10.cell? (a_11.add (Int.toNat i8_9)) = some (.slice t33_12.a t33_12.n t33_12.c) ∧
  Calls Try.prog 14 #[.slice t33_12.a t33_12.n t33_12.c] w_10 fun e w_14 => ∃ (t34_13 : Sl), e = .returned (.slice t34_13.a t34_13.n t34_13.c : Value) ∧
  Calls Try.prog 15 #[.slice t34_13.a t34_13.n t34_13.c] w_14 fun e w_16 => ∃ (t37_15 : Sl), e = .returned (.slice t37_15.a t37_15.n t37_15.c : Value) ∧
  ∀ (w_17 : World), w_17 = w_16.alloc (.cells #[.slice t37_15.a t37_15.n t37_15.c] 22) →
  ∃ (t39_18 : Sl), ∃ (w_19 : World), (Builtin.append_ #[40, 40] 40 #[.slice lists6_7.a lists6_7.n lists6_7.c, .slice (some ⟨w_16.heap.size, 0, none⟩) 1 1]).run Try.prog w_17 = .ok (.slice t39_18.a t39_18.n t39_18.c : Value) w_19 ∧
  ∀ (w_20 : World), w_20 = w_19.alloc (.cells #[.slice t34_13.a t34_13.n t34_13.c] 22) →
  ∃ (t43_21 : Sl), ∃ (w_22 : World), (Builtin.append_ #[40, 40] 40 #[.slice copies7_8.a copies7_8.n copies7_8.c, .slice (some ⟨w_19.heap.size, 0, none⟩) 1 1]).run Try.prog w_20 = .ok (.slice t43_21.a t43_21.n t43_21.c : Value) w_22 ∧
  next8 (t39_18, t43_21, IntKind.i64.wrap (i8_9 + 1)) w_22) ∧
  (¬ (i8_9 < 9) →
  Calls Try.prog 36 #[.slice copies7_8.a copies7_8.n copies7_8.c] w_10 fun e w_25 => ∃ (t46_23 : Sl), ∃ (t46_24 : Sl), e = .returned (.tuple #[.slice t46_23.a t46_23.n t46_23.c, .slice t46_24.a t46_24.n t46_24.c] : Value) ∧
  ∀ (w_26 : World), w_26 = w_25.alloc (.cells #[.slice none 0 0] 22) →
  ∀ (w_27 : World), w_27 = w_26.alloc (.cells #[.slice none 0 0] 41) →
  HasCell w_27 (⟨w_25.heap.size, 0, none⟩ : Addr) ∧ ∀ (w_28 : World), w_28 = w_27.setCell (⟨w_25.heap.size, 0, none⟩ : Addr) (.slice t46_23.a t46_23.n t46_23.c : Value) →
  HasCell w_28 (⟨w_26.heap.size, 0, none⟩ : Addr) ∧ ∀ (w_29 : World), w_29 = w_28.setCell (⟨w_26.heap.size, 0, none⟩ : Addr) (.slice t46_24.a t46_24.n t46_24.c : Value) →
  Calls Try.prog 37 #[.slice lists6_7.a lists6_7.n lists6_7.c] w_29 fun e w_31 => ∃ (t50_30 : Value), e = .returned t50_30 ∧
  ∃ (t52_32 : Bool), (do eqGuard .eql 45 (Operand.tmp 51) (Operand.const Value.nilFunc) t50_30 (Value.nilFunc); binOp .eql 45 t50_30 (Value.nilFunc)).run Try.prog w_31 = .ok (.bool t52_32 : Value) w_31 ∧
  ((t52_32 = true →
  HasCell w_31 (⟨w_3.heap.size, 0, none⟩ : Addr) ∧ ∀ (w_33 : World), w_33 = w_31.setCell (⟨w_3.heap.size, 0, none⟩ : Addr) (.bool false : Value) →
  ∃ (r0_34 : Bool), w_33.cell? (⟨w_3.heap.size, 0, none⟩ : Addr) = some (.bool r0_34) ∧
  K r0_34 w_33) ∧
  (t52_32 = false →
  kLoop (F6_l2 K w w_3 t19_5 lists6_7 copies7_8 w_25 w_26 t50_30) (0) w_31))))) ∧
  (¬ (i8_9 < ((l0_1.n : Int))) →
  Calls Try.prog 36 #[.slice copies7_8.a copies7_8.n copies7_8.c] w_10 fun e w_60 => ∃ (t46_58 : Sl), ∃ (t46_59 : Sl), e = .returned (.tuple #[.slice t46_58.a t46_58.n t46_58.c, .slice t46_59.a t46_59.n t46_59.c] : Value) ∧
  ∀ (w_61 : World), w_61 = w_60.alloc (.cells #[.slice none 0 0] 22) →
  ∀ (w_62 : World), w_62 = w_61.alloc (.cells #[.slice none 0 0] 41) →
  HasCell w_62 (⟨w_60.heap.size, 0, none⟩ : Addr) ∧ ∀ (w_63 : World), w_63 = w_62.setCell (⟨w_60.heap.size, 0, none⟩ : Addr) (.slice t46_58.a t46_58.n t46_58.c : Value) →
  HasCell w_63 (⟨w_61.heap.size, 0, none⟩ : Addr) ∧ ∀ (w_64 : World), w_64 = w_63.setCell (⟨w_61.heap.size, 0, none⟩ : Addr) (.slice t46_59.a t46_59.n t46_59.c : Value) →
  Calls Try.prog 37 #[.slice lists6_7.a lists6_7.n lists6_7.c] w_64 fun e w_66 => ∃ (t50_65 : Value), e = .returned t50_65 ∧
  ∃ (t52_67 : Bool), (do eqGuard .eql 45 (Operand.tmp 51) (Operand.const Value.nilFunc) t50_65 (Value.nilFunc); binOp .eql 45 t50_65 (Value.nilFunc)).run Try.prog w_66 = .ok (.bool t52_67 : Value) w_66 ∧
  ((t52_67 = true →
  HasCell w_66 (⟨w_3.heap.size, 0, none⟩ : Addr) ∧ ∀ (w_68 : World), w_68 = w_66.setCell (⟨w_3.heap.size, 0, none⟩ : Addr) (.bool false : Value) →
  ∃ (r0_69 : Bool), w_68.cell? (⟨w_3.heap.size, 0, none⟩ : Addr) = some (.bool r0_69) ∧
  K r0_69 w_68) ∧
  (t52_67 = false →
  kLoop (F6_l4 K w w_3 t19_5 lists6_7 copies7_8 w_60 w_61 t50_65) (0) w_66))))
/-- turnkey/turnkeylaw12.PostWalks -/
def F6 (l0_1 : Sl) (stop1_2 : Int) (K : Bool → World → Prop) (w : World) : Prop :=
  ∀ (w_3 : World), w_3 = w.alloc (.cells #[.int .i64 stop1_2] 3) →
  ∀ (w_4 : World), w_4 = w_3.alloc (.cells #[.bool false] 4) →
  Calls Try.prog 13 #[] w_4 fun e w_6 => ∃ (t19_5 : Bool), e = .returned (.bool t19_5 : Value) ∧
  kLoop (F6_l1 l0_1 K w w_3 t19_5) (⟨none, 0, 0⟩, ⟨none, 0, 0⟩, 0) w_6
set_option maxHeartbeats 4000000 in
set_option maxRecDepth 20000 in
theorem F6_sound (l0_1 : Sl) (stop1_2 : Int) (K : Bool → World → Prop) (w : World) (h : F6 l0_1 stop1_2 K w) :
    Calls Try.prog 6 #[.slice l0_1.a l0_1.n l0_1.c, .int .i64 stop1_2] w (fun e w1 => ∃ (r0 : Bool), e = .returned (.bool r0 : Value) ∧ K r0 w1) := by
  unfold F6 at h
  refine y_enterM (n := 128) (args := [.slice l0_1.a l0_1.n l0_1.c, .int .i64 stop1_2]) Try.func6 rfl rfl rfl fun hQ0 => ?_
  refine y_seq fun K1 hK1 => ?_
  refine y_region ?_
  refine y_k (.pointer (some (⟨w.heap.size, 0, none⟩ : Addr)) : Value) (w.alloc (.cells #[.int .i64 stop1_2] 3)) rfl rfl rfl (by kernel_rfl) ?_
  replace h := h _ rfl
  generalize w.alloc (.cells #[.int .i64 stop1_2] 3) = w_3 at h ⊢
  refine y_k (.pointer (some (⟨w_3.heap.size, 0, none⟩ : Addr)) : Value) (w_3.alloc (.cells #[.bool false] 4)) rfl rfl rfl (by kernel_rfl) ?_
  replace h := h _ rfl
  generalize w_3.alloc (.cells #[.bool false] 4) = w_4 at h ⊢
  refine y_nil ?_
  refine y_then (hK1 _ _ ?_)
  refine y_seq fun K2 hK2 => ?_
  refine y_region ?_
  refine y_call rfl rfl rfl (by kernel_rfl) (h.mono ?_)
  rintro _ w_6 ⟨t19_5, rfl, h⟩
  refine ⟨_, rfl, ?_⟩
  refine y_k (.bool t19_5 : Value) w_6 rfl rfl rfl (by kernel_rfl) ?_
  refine y_nil ?_
  refine y_then (hK2 _ _ ?_)
  refine y_seq fun K3 hK3 => ?_
  refine y_region ?_
  refine y_k (.slice none 0 0 : Value) w_6 rfl rfl rfl (by kernel_rfl) ?_
  refine y_nil ?_
  refine y_then (hK3 _ _ ?_)
  refine y_seq fun K4 hK4 => ?_
  refine y_region ?_
  refine y_k (.slice none 0 0 : Value) w_6 rfl rfl rfl (by kernel_rfl) ?_
  refine y_nil ?_
  refine y_then (hK4 _ _ ?_)
  refine y_seq fun K5 hK5 => ?_
  refine y_seq fun K6 hK6 => ?_
  refine y_region ?_
  refine y_k (.int .i64 0 : Value) w_6 rfl rfl rfl (by kernel_rfl) ?_
  refine y_nil ?_
  refine y_then (hK6 _ _ ?_)
  refine y_block ?_
  refine y_loop (S := Sl × Sl × Int) (fun s j => match s with | (lists6_7, copies7_8, i8_9) => upd (upd (upd (upd (upd (upd (upd (j) 0 (.slice l0_1.a l0_1.n l0_1.c : Value)) 3 (.pointer (some (⟨w.heap.size, 0, none⟩ : Addr)) : Value)) 4 (.pointer (some (⟨w_3.heap.size, 0, none⟩ : Addr)) : Value)) 5 (.bool t19_5 : Value)) 6 (.slice lists6_7.a lists6_7.n lists6_7.c : Value)) 7 (.slice copies7_8.a copies7_8.n copies7_8.c : Value)) 8 (.int .i64 i8_9 : Value)) (⟨none, 0, 0⟩, ⟨none, 0, 0⟩, 0) ?_ h ?_
  · try dsimp only
    refine upd_id ?_ rfl
    refine upd_id ?_ rfl
    refine upd_id ?_ rfl
    refine upd_id ?_ rfl
    refine upd_id ?_ rfl
    refine upd_id ?_ rfl
    refine upd_id ?_ rfl
    rfl
  rintro KN9 next8 hN9 ⟨lists6_7, copies7_8, i8_9⟩ j w_10 h
  unfold F6_l1 at h
  refine y_seq fun K10 hK10 => ?_
  refine y_seq fun K11 hK11 => ?_
  refine y_region ?_
  refine y_k (.int .i64 i8_9 : Value) w_10 rfl rfl rfl (by kernel_rfl) ?_
  refine y_k (.slice l0_1.a l0_1.n l0_1.c : Value) w_10 rfl rfl rfl (by kernel_rfl) ?_
  refine y_k (.int .i64 ((l0_1.n : Int)) : Value) w_10 rfl rfl rfl (by kernel_rfl) ?_
  refine y_k (.bool (decide (i8_9 < ((l0_1.n : Int)))) : Value) w_10 rfl rfl rfl (by kernel_rfl) ?_
  refine y_k (.bool (decide (i8_9 < ((l0_1.n : Int)))) : Value) w_10 rfl rfl rfl (by kernel_rfl) ?_
  refine y_fork (decide (i8_9 < ((l0_1.n : Int)))) (fun hb12 => ?_) (fun hb12 => ?_)
  · replace h := h.1 (of_decide_eq_true hb12)
    refine y_frame (upd_id (i := 24) (v := .bool true) rfl (congrArg Value.bool hb12)) ?_
    refine y_gyes rfl rfl rfl ?_
    refine y_k (.int .i64 i8_9 : Value) w_10 rfl rfl rfl (by kernel_rfl) ?_
    refine y_gyes rfl rfl rfl ?_
    refine y_k (.bool (decide (i8_9 < 9)) : Value) w_10 rfl rfl rfl (by kernel_rfl) ?_
    refine y_k (.bool (decide (i8_9 < 9)) : Value) w_10 rfl rfl rfl (by kernel_rfl) ?_
    refine y_nil ?_
    refine y_then (hK11 _ _ ?_)
    refine y_cond (decide (i8_9 < 9)) rfl rfl (fun hb74 => ?_) (fun hb74 => ?_)
    · replace h := h.1 (of_decide_eq_true hb74)
      refine y_skip ?_
      refine y_then (hK10 _ _ ?_)
      refine y_seq fun K13 hK13 => ?_
      refine y_block ?_
      refine y_seq fun K15 hK15 => ?_
      refine y_region ?_
      refine y_k (.slice l0_1.a l0_1.n l0_1.c : Value) w_10 rfl rfl rfl (by kernel_rfl) ?_
      refine y_k (.int .i64 i8_9 : Value) w_10 rfl rfl rfl (by kernel_rfl) ?_
      obtain ⟨hx16a, hx16b, a_11, hx16, h⟩ := h
      refine y_v (v := (.pointer (some (a_11.add (Int.toNat i8_9))) : Value)) (s := Instr.indexAt 40 (.slice l0_1.a l0_1.n l0_1.c : Value) (.int .i64 i8_9 : Value)) rfl rfl rfl (by kernel_rfl) (run_ixs1 (el := 22) (by kernel_rfl) (by kernel_rfl) hx16 hx16a hx16b) ?_
      obtain ⟨t33_12, hx17, h⟩ := h
      refine y_v (s := Instr.loadAt 22 (.pointer (some (a_11.add (Int.toNat i8_9))))) rfl rfl rfl (by kernel_rfl) (rn_load (by kernel_rfl) hx17) ?_
      refine y_call rfl rfl rfl (by kernel_rfl) (h.mono ?_)
      rintro _ w_14 ⟨t34_13, rfl, h⟩
      refine ⟨_, rfl, ?_⟩
      refine y_k (.slice t34_13.a t34_13.n t34_13.c : Value) w_14 rfl rfl rfl (by kernel_rfl) ?_
      refine y_nil ?_
      refine y_then (hK15 _ _ ?_)
      refine y_seq fun K18 hK18 => ?_
      refine y_region ?_
      refine y_k (.slice lists6_7.a lists6_7.n lists6_7.c : Value) w_14 rfl rfl rfl (by kernel_rfl) ?_
      refine y_k (.slice t34_13.a t34_13.n t34_13.c : Value) w_14 rfl rfl rfl (by kernel_rfl) ?_
      refine y_call rfl rfl rfl (by kernel_rfl) (h.mono ?_)
      rintro _ w_16 ⟨t37_15, rfl, h⟩
      refine ⟨_, rfl, ?_⟩
      refine y_k (.slice (some ⟨w_16.heap.size, 0, none⟩) 1 1 : Value) (w_16.alloc (.cells #[.slice t37_15.a t37_15.n t37_15.c] 22)) rfl rfl rfl (by kernel_rfl) ?_
      replace h := h _ rfl
      generalize w_16.alloc (.cells #[.slice t37_15.a t37_15.n t37_15.c] 22) = w_17 at h ⊢
      obtain ⟨t39_18, w_19, hx19, h⟩ := h
      refine y_v (s := Builtin.append_ #[40, 40] 40 #[.slice lists6_7.a lists6_7.n lists6_7.c, .slice (some ⟨w_16.heap.size, 0, none⟩) 1 1]) rfl rfl rfl (by kernel_rfl) hx19 ?_
      refine y_k (.slice t39_18.a t39_18.n t39_18.c : Value) w_19 rfl rfl rfl (by kernel_rfl) ?_
      refine y_nil ?_
      refine y_then (hK18 _ _ ?_)
      refine y_region ?_
      refine y_k (.slice copies7_8.a copies7_8.n copies7_8.c : Value) w_19 rfl rfl rfl (by kernel_rfl) ?_
      refine y_k (.slice t34_13.a t34_13.n t34_13.c : Value) w_19 rfl rfl rfl (by kernel_rfl) ?_
      refine y_k (.slice (some ⟨w_19.heap.size, 0, none⟩) 1 1 : Value) (w_19.alloc (.cells #[.slice t34_13.a t34_13.n t34_13.c] 22)) rfl rfl rfl (by kernel_rfl) ?_
      replace h := h _ rfl
      generalize w_19.alloc (.cells #[.slice t34_13.a t34_13.n t34_13.c] 22) = w_20 at h ⊢
      obtain ⟨t43_21, w_22, hx20, h⟩ := h
      refine y_v (s := Builtin.append_ #[40, 40] 40 #[.slice copies7_8.a copies7_8.n copies7_8.c, .slice (some ⟨w_19.heap.size, 0, none⟩) 1 1]) rfl rfl rfl (by kernel_rfl) hx20 ?_
      refine y_k (.slice t43_21.a t43_21.n t43_21.c : Value) w_22 rfl rfl rfl (by kernel_rfl) ?_
      refine y_nil ?_
      refine e_block_n ?_
      refine y_then (hK13 _ _ ?_)
      refine y_region ?_
      refine y_k (.int .i64 i8_9 : Value) w_22 rfl rfl rfl (by kernel_rfl) ?_
      refine y_k (.int .i64 (IntKind.i64.wrap (i8_9 + 1)) : Value) w_22 rfl rfl rfl (by kernel_rfl) ?_
      refine y_k (.int .i64 (IntKind.i64.wrap (i8_9 + 1)) : Value) w_22 rfl rfl rfl (by kernel_rfl) ?_
      refine y_nil ?_
      refine y_then (hN9 (t39_18, t43_21, IntKind.i64.wrap (i8_9 + 1)) _ _ h ?_)
      try dsimp only
      refine upd_id ?_ rfl
      refine upd_id ?_ rfl
      refine upd_id ?_ rfl
      refine upd_id ?_ rfl
      refine upd_id ?_ rfl
      refine upd_id ?_ rfl
      refine upd_id ?_ rfl
      rfl
    · replace h := h.2 (of_decide_eq_false hb74)
      refine y_exit ?_
      repeat (first | refine e_then_x ?_ | refine e_block_y rfl ?_)
      refine e_block_x ?_
      refine y_then (hK5 _ _ ?_)
      refine y_seq fun K21 hK21 => ?_
      refine y_region ?_
      refine y_k (.slice copies7_8.a copies7_8.n copies7_8.c : Value) w_10 rfl rfl rfl (by kernel_rfl) ?_
      refine y_call rfl rfl rfl (by kernel_rfl) (h.mono ?_)
      rintro _ w_25 ⟨t46_23, t46_24, rfl, h⟩
      refine ⟨_, rfl, ?_⟩
      refine y_k (.tuple #[.slice t46_23.a t46_23.n t46_23.c, .slice t46_24.a t46_24.n t46_24.c] : Value) w_25 rfl rfl rfl (by kernel_rfl) ?_
      refine y_k (.slice t46_23.a t46_23.n t46_23.c : Value) w_25 rfl rfl rfl (by kernel_rfl) ?_
      refine y_k (.slice t46_24.a t46_24.n t46_24.c : Value) w_25 rfl rfl rfl (by kernel_rfl) ?_
      refine y_k (.pointer (some (⟨w_25.heap.size, 0, none⟩ : Addr)) : Value) (w_25.alloc (.cells #[.slice none 0 0] 22)) rfl rfl rfl (by kernel_rfl) ?_
      replace h := h _ rfl
      generalize w_25.alloc (.cells #[.slice none 0 0] 22) = w_26 at h ⊢
      refine y_k (.pointer (some (⟨w_26.heap.size, 0, none⟩ : Addr)) : Value) (w_26.alloc (.cells #[.slice none 0 0] 41)) rfl rfl rfl (by kernel_rfl) ?_
      replace h := h _ rfl
      generalize w_26.alloc (.cells #[.slice none 0 0] 41) = w_27 at h ⊢
      obtain ⟨hx22, h⟩ := h
      replace h := h _ rfl
      refine y_u (s := Instr.storeAt 22 (.pointer (some (⟨w_25.heap.size, 0, none⟩ : Addr))) (.slice t46_23.a t46_23.n t46_23.c : Value)) rfl rfl (by kernel_rfl) (rn_store1 (by kernel_rfl) rfl hx22) ?_
      generalize w_27.setCell (⟨w_25.heap.size, 0, none⟩ : Addr) (.slice t46_23.a t46_23.n t46_23.c : Value) = w_28 at h ⊢
      obtain ⟨hx23, h⟩ := h
      replace h := h _ rfl
      refine y_u (s := Instr.storeAt 41 (.pointer (some (⟨w_26.heap.size, 0, none⟩ : Addr))) (.slice t46_24.a t46_24.n t46_24.c : Value)) rfl rfl (by kernel_rfl) (rn_store1 (by kernel_rfl) rfl hx23) ?_
      generalize w_28.setCell (⟨w_26.heap.size, 0, none⟩ : Addr) (.slice t46_24.a t46_24.n t46_24.c : Value) = w_29 at h ⊢
      refine y_nil ?_
      refine y_then (hK21 _ _ ?_)
      refine y_seq fun K24 hK24 => ?_
      refine y_region ?_
      refine y_k (.slice lists6_7.a lists6_7.n lists6_7.c : Value) w_29 rfl rfl rfl (by kernel_rfl) ?_
      refine y_call rfl rfl rfl (by kernel_rfl) (h.mono ?_)
      rintro _ w_31 ⟨t50_30, rfl, h⟩
      refine ⟨_, rfl, ?_⟩
      refine y_k t50_30 w_31 rfl rfl rfl (by kernel_rfl) ?_
      refine y_nil ?_
      refine y_then (hK24 _ _ ?_)
      refine y_seq fun K25 hK25 => ?_
      refine y_seq fun K26 hK26 => ?_
      refine y_region ?_
      refine y_k t50_30 w_31 rfl rfl rfl (by kernel_rfl) ?_
      obtain ⟨t52_32, hx27, h⟩ := h
      refine y_v (s := do eqGuard .eql 45 (Operand.tmp 51) (Operand.const Value.nilFunc) t50_30 (Value.nilFunc); binOp .eql 45 t50_30 (Value.nilFunc)) rfl rfl rfl (by kernel_rfl) (hx27) ?_
      refine y_nil ?_
      refine y_then (hK26 _ _ ?_)
      refine y_cond (t52_32) rfl rfl (fun hb73 => ?_) (fun hb73 => ?_)
      · replace h := h.1 (hb73)
        refine y_seq fun K28 hK28 => ?_
        refine y_region ?_
        obtain ⟨hx29, h⟩ := h
        replace h := h _ rfl
        refine y_u (s := Instr.storeAt 4 (.pointer (some (⟨w_3.heap.size, 0, none⟩ : Addr))) (.bool false : Value)) rfl rfl (by kernel_rfl) (rn_store1 (by kernel_rfl) rfl hx29) ?_
        generalize w_31.setCell (⟨w_3.heap.size, 0, none⟩ : Addr) (.bool false : Value) = w_33 at h ⊢
        refine y_nil ?_
        refine y_then (hK28 _ _ ?_)
        refine y_ret ?_
        repeat (first | refine e_then_r ?_ | refine e_block_r ?_)
        obtain ⟨r0_34, hx30, h⟩ := h
        exact (hQ0 _ _ _ (rs1 rfl (rs_cell (v := (.bool r0_34 : Value)) (ad := (⟨w_3.heap.size, 0, none⟩ : Addr)) rfl rfl (rn_load (by kernel_rfl) hx30))) ⟨_, rfl, h⟩).1
      · replace h := h.2 (hb73)
        refine y_skip ?_
        refine y_then (hK25 _ _ ?_)
        refine y_seq fun K31 hK31 => ?_
        refine y_seq fun K32 hK32 => ?_
        refine y_region ?_
        refine y_k (.int .i64 0 : Value) w_31 rfl rfl rfl (by kernel_rfl) ?_
        refine y_nil ?_
        refine y_then (hK32 _ _ ?_)
        refine y_block ?_
        refine y_loop (S := Int) (fun s j => match s with | (i13_35) => upd (upd (upd (upd (upd (upd (upd (upd (upd (j) 3 (.pointer (some (⟨w.heap.size, 0, none⟩ : Addr)) : Value)) 4 (.pointer (some (⟨w_3.heap.size, 0, none⟩ : Addr)) : Value)) 5 (.bool t19_5 : Value)) 6 (.slice lists6_7.a lists6_7.n lists6_7.c : Value)) 7 (.slice copies7_8.a copies7_8.n copies7_8.c : Value)) 10 (.pointer (some (⟨w_25.heap.size, 0, none⟩ : Addr)) : Value)) 11 (.pointer (some (⟨w_26.heap.size, 0, none⟩ : Addr)) : Value)) 12 t50_30) 13 (.int .i64 i13_35 : Value)) (0) ?_ h ?_
        · try dsimp only
          refine upd_id ?_ rfl
          refine upd_id ?_ rfl
          refine upd_id ?_ rfl
          refine upd_id ?_ rfl
          refine upd_id ?_ rfl
          refine upd_id ?_ rfl
          refine upd_id ?_ rfl
          refine upd_id ?_ rfl
          refine upd_id ?_ rfl
          rfl
        rintro KN35 next34 hN35 i13_35 j w_36 h
        unfold F6_l2 at h
        refine y_seq fun K36 hK36 => ?_
        refine y_seq fun K37 hK37 => ?_
        refine y_region ?_
        refine y_k (.int .i64 i13_35 : Value) w_36 rfl rfl rfl (by kernel_rfl) ?_
        refine y_k (.slice lists6_7.a lists6_7.n lists6_7.c : Value) w_36 rfl rfl rfl (by kernel_rfl) ?_
        refine y_k (.int .i64 ((lists6_7.n : Int)) : Value) w_36 rfl rfl rfl (by kernel_rfl) ?_
        refine y_k (.bool (decide (i13_35 < ((lists6_7.n : Int)))) : Value) w_36 rfl rfl rfl (by kernel_rfl) ?_
        refine y_nil ?_
        refine y_then (hK37 _ _ ?_)
        refine y_cond (decide (i13_35 < ((lists6_7.n : Int)))) rfl rfl (fun hb72 => ?_) (fun hb72 => ?_)
        · replace h := h.1 (of_decide_eq_true hb72)
          refine y_skip ?_
          refine y_then (hK36 _ _ ?_)
          refine y_seq fun K38 hK38 => ?_
          refine y_block ?_
          refine y_seq fun K40 hK40 => ?_
          obtain ⟨w_37, hwd41⟩ : ∃ wd : World, wd = w_36.drew := ⟨_, rfl⟩
          replace h := h _ hwd41
          refine t_region (wd := w_37) [] (by kernel_rfl) hwd41 SF_nil fun Q41 hE41 hp41 hS => ?_
          clear hwd41
          refine t_kw hp41 hS 0 (.slice lists6_7.a lists6_7.n lists6_7.c : Value) rfl (wanted_none rfl) rfl rfl (by kernel_rfl) (fun _ _ => by kernel_rfl) fun hS => ?_
          refine t_kw hp41 hS 1 (.int .i64 i13_35 : Value) rfl (wanted_none rfl) rfl rfl (by kernel_rfl) (fun _ _ => by kernel_rfl) fun hS => ?_
          obtain ⟨hx42a, hx42b, a_38, hx42, h⟩ := h
          refine t_v (s := Instr.indexAt 40 (.slice lists6_7.a lists6_7.n lists6_7.c : Value) (.int .i64 i13_35 : Value)) hp41 hS 2 (.pointer (some (a_38.add (Int.toNat i13_35))) : Value) rfl (wanted_none rfl) rfl rfl (by kernel_rfl) (by kernel_rfl) (fun _ _ => run_ixs1 (el := 22) (by kernel_rfl) (by kernel_rfl) hx42 hx42a hx42b) fun hS => ?_
          obtain ⟨t62_39, hx43, h⟩ := h
          refine t_add ⟨3, [8], fun wx => wx.cell? (a_38.add (Int.toNat i13_35)) = some (.slice t62_39.a t62_39.n t62_39.c)⟩ ?_
          replace hS := SF_on (x := ⟨3, [8], fun wx => wx.cell? (a_38.add (Int.toNat i13_35)) = some (.slice t62_39.a t62_39.n t62_39.c)⟩) hx43 hS
          refine t_v (s := Instr.loadAt 22 (.pointer (some (a_38.add (Int.toNat i13_35))))) hp41 hS 3 (.slice t62_39.a t62_39.n t62_39.c : Value) rfl (wanted_none rfl) rfl rfl (by kernel_rfl) (by kernel_rfl) (fun _ hw => rn_load (by kernel_rfl) (Sw.fact (List.Mem.head _) rfl hw)) fun hS => ?_
          refine t_kw hp41 hS 4 (.slice copies7_8.a copies7_8.n copies7_8.c : Value) rfl (wanted_none rfl) rfl rfl (by kernel_rfl) (fun _ _ => by kernel_rfl) fun hS => ?_
          refine t_kw hp41 hS 5 (.int .i64 i13_35 : Value) rfl (wanted_none rfl) rfl rfl (by kernel_rfl) (fun _ _ => by kernel_rfl) fun hS => ?_
          obtain ⟨hx44a, hx44b, a_40, hx44, h⟩ := h
          refine t_v (s := Instr.indexAt 40 (.slice copies7_8.a copies7_8.n copies7_8.c : Value) (.int .i64 i13_35 : Value)) hp41 hS 6 (.pointer (some (a_40.add (Int.toNat i13_35))) : Value) rfl (wanted_none rfl) rfl rfl (by kernel_rfl) (by kernel_rfl) (fun _ _ => run_ixs1 (el := 22) (by kernel_rfl) (by kernel_rfl) hx44 hx44a hx44b) fun hS => ?_
          obtain ⟨t66_41, hx45, h⟩ := h
          refine t_add ⟨7, [8], fun wx => wx.cell? (a_40.add (Int.toNat i13_35)) = some (.slice t66_41.a t66_41.n t66_41.c)⟩ ?_
          replace hS := SF_on (x := ⟨7, [8], fun wx => wx.cell? (a_40.add (Int.toNat i13_35)) = some (.slice t66_41.a t66_41.n t66_41.c)⟩) hx45 hS
          refine t_v (s := Instr.loadAt 22 (.pointer (some (a_40.add (Int.toNat i13_35))))) hp41 hS 7 (.slice t66_41.a t66_41.n t66_41.c : Value) rfl (wanted_none rfl) rfl rfl (by kernel_rfl) (by kernel_rfl) (fun _ hw => rn_load (by kernel_rfl) (Sw.fact (List.Mem.head _) rfl hw)) fun hS => ?_
          refine t_call 8 (by kernel_rfl) rfl (wanted_none rfl) rfl rfl (by kernel_rfl) (h.mono ?_)
          rintro _ w_43 ⟨t67_42, rfl, h⟩
          refine ⟨_, rfl, (SF_off (by kernel_rfl) (by kernel_rfl) (SF_off (by kernel_rfl) (by kernel_rfl) SF_nil)), fun hS => ?_⟩
          refine t_kw hp41 hS 9 (.bool t67_42 : Value) rfl (wanted_none rfl) rfl rfl (by kernel_rfl) (fun _ _ => by kernel_rfl) fun hS => ?_
          refine t_done (by kernel_rfl) (hE41 _ _ ?_)
          refine y_then (hK40 _ _ ?_)
          refine y_seq fun K46 hK46 => ?_
          refine y_seq fun K47 hK47 => ?_
          refine y_region ?_
          refine y_k (.bool t67_42 : Value) w_43 rfl rfl rfl (by kernel_rfl) ?_
          refine y_k (.bool (!(t67_42)) : Value) w_43 rfl rfl rfl (by kernel_rfl) ?_
          refine y_nil ?_
          refine y_then (hK47 _ _ ?_)
          refine y_cond (!(t67_42)) rfl rfl (fun hb69 => ?_) (fun hb69 => ?_)
          · replace h := h.1 ((not_true_of hb69))
            refine y_seq fun K48 hK48 => ?_
            refine y_region ?_
            obtain ⟨hx49, h⟩ := h
            replace h := h _ rfl
            refine y_u (s := Instr.storeAt 4 (.pointer (some (⟨w_3.heap.size, 0, none⟩ : Addr))) (.bool false : Value)) rfl rfl (by kernel_rfl) (rn_store1 (by kernel_rfl) rfl hx49) ?_
            generalize w_43.setCell (⟨w_3.heap.size, 0, none⟩ : Addr) (.bool false : Value) = w_44 at h ⊢
            refine y_nil ?_
            refine y_then (hK48 _ _ ?_)
            refine y_ret ?_
            repeat (first | refine e_then_r ?_ | refine e_block_r ?_)
            obtain ⟨r0_45, hx50, h⟩ := h
            exact (hQ0 _ _ _ (rs1 rfl (rs_cell (v := (.bool r0_45 : Value)) (ad := (⟨w_3.heap.size, 0, none⟩ : Addr)) rfl rfl (rn_load (by kernel_rfl) hx50))) ⟨_, rfl, h⟩).1
          · replace h := h.2 ((not_false_of hb69))
            refine y_skip ?_
            refine y_then (hK46 _ _ ?_)
            refine y_seq fun K51 hK51 => ?_
            refine y_seq fun K52 hK52 => ?_
            refine y_region ?_
            refine y_k (.int .i64 0 : Value) w_43 rfl rfl rfl (by kernel_rfl) ?_
            refine y_nil ?_
            refine y_then (hK52 _ _ ?_)
            refine y_block ?_
            refine y_loop (S := Int) (fun s j => match s with | (k15_46) => upd (upd (upd (upd (upd (upd (upd (upd (upd (upd (j) 3 (.pointer (some (⟨w.heap.size, 0, none⟩ : Addr)) : Value)) 4 (.pointer (some (⟨w_3.heap.size, 0, none⟩ : Addr)) : Value)) 5 (.bool t19_5 : Value)) 6 (.slice lists6_7.a lists6_7.n lists6_7.c : Value)) 7 (.slice copies7_8.a copies7_8.n copies7_8.c : Value)) 10 (.pointer (some (⟨w_25.heap.size, 0, none⟩ : Addr)) : Value)) 11 (.pointer (some (⟨w_26.heap.size, 0, none⟩ : Addr)) : Value)) 12 t50_30) 13 (.int .i64 i13_35 : Value)) 15 (.int .i64 k15_46 : Value)) (0) ?_ h ?_
            · try dsimp only
              refine upd_id ?_ rfl
              refine upd_id ?_ rfl
              refine upd_id ?_ rfl
              refine upd_id ?_ rfl
              refine upd_id ?_ rfl
              refine upd_id ?_ rfl
              refine upd_id ?_ rfl
              refine upd_id ?_ rfl
              refine upd_id ?_ rfl
              refine upd_id ?_ rfl
              rfl
            rintro KN55 next54 hN55 k15_46 j w_47 h
            unfold F6_l3 at h
            refine y_seq fun K56 hK56 => ?_
            refine y_seq fun K57 hK57 => ?_
            refine y_region ?_
            refine y_k (.int .i64 k15_46 : Value) w_47 rfl rfl rfl (by kernel_rfl) ?_
            refine y_k (.slice lists6_7.a lists6_7.n lists6_7.c : Value) w_47 rfl rfl rfl (by kernel_rfl) ?_
            refine y_k (.int .i64 i13_35 : Value) w_47 rfl rfl rfl (by kernel_rfl) ?_
            obtain ⟨hx58a, hx58b, a_48, hx58, h⟩ := h
            refine y_v (v := (.pointer (some (a_48.add (Int.toNat i13_35))) : Value)) (s := Instr.indexAt 40 (.slice lists6_7.a lists6_7.n lists6_7.c : Value) (.int .i64 i13_35 : Value)) rfl rfl rfl (by kernel_rfl) (run_ixs1 (el := 22) (by kernel_rfl) (by kernel_rfl) hx58 hx58a hx58b) ?_
            obtain ⟨t74_49, hx59, h⟩ := h
            refine y_v (s := Instr.loadAt 22 (.pointer (some (a_48.add (Int.toNat i13_35))))) rfl rfl rfl (by kernel_rfl) (rn_load (by kernel_rfl) hx59) ?_
            refine y_k (.int .i64 ((t74_49.n : Int)) : Value) w_47 rfl rfl rfl (by kernel_rfl) ?_
            refine y_k (.bool (decide (k15_46 < ((t74_49.n : Int)))) : Value) w_47 rfl rfl rfl (by kernel_rfl) ?_
            refine y_nil ?_
            refine y_then (hK57 _ _ ?_)
            refine y_cond (decide (k15_46 < ((t74_49.n : Int)))) rfl rfl (fun hb68 => ?_) (fun hb68 => ?_)
            · replace h := h.1 (of_decide_eq_true hb68)
              refine y_skip ?_
              refine y_then (hK56 _ _ ?_)
              refine y_seq fun K60 hK60 => ?_
              refine y_block ?_
              refine y_region ?_
              refine y_k (.slice lists6_7.a lists6_7.n lists6_7.c : Value) w_47 rfl rfl rfl (by kernel_rfl) ?_
              refine y_k (.int .i64 i13_35 : Value) w_47 rfl rfl rfl (by kernel_rfl) ?_
              obtain ⟨hx62a, hx62b, a_50, hx62, h⟩ := h
              refine y_v (v := (.pointer (some (a_50.add (Int.toNat i13_35))) : Value)) (s := Instr.indexAt 40 (.slice lists6_7.a lists6_7.n lists6_7.c : Value) (.int .i64 i13_35 : Value)) rfl rfl rfl (by kernel_rfl) (run_ixs1 (el := 22) (by kernel_rfl) (by kernel_rfl) hx62 hx62a hx62b) ?_
              obtain ⟨t82_51, hx63, h⟩ := h
              refine y_v (s := Instr.loadAt 22 (.pointer (some (a_50.add (Int.toNat i13_35))))) rfl rfl rfl (by kernel_rfl) (rn_load (by kernel_rfl) hx63) ?_
              refine y_k (.int .i64 k15_46 : Value) w_47 rfl rfl rfl (by kernel_rfl) ?_
              obtain ⟨hx64a, hx64b, a_52, hx64, h⟩ := h
              refine y_v (v := (.pointer (some (a_52.add (Int.toNat k15_46))) : Value)) (s := Instr.indexAt 22 (.slice t82_51.a t82_51.n t82_51.c : Value) (.int .i64 k15_46 : Value)) rfl rfl rfl (by kernel_rfl) (run_ixs1 (el := 23) (by kernel_rfl) (by kernel_rfl) hx64 hx64a hx64b) ?_
              obtain ⟨hx65, h⟩ := h
              replace h := h _ rfl
              refine y_u (s := Instr.storeAt 23 (.pointer (some (a_52.add (Int.toNat k15_46)))) (.int .u32 9 : Value)) rfl rfl (by kernel_rfl) (rn_store1 (by kernel_rfl) rfl hx65) ?_
              generalize w_47.setCell (a_52.add (Int.toNat k15_46)) (.int .u32 9 : Value) = w_53 at h ⊢
              refine y_nil ?_
              refine e_block_n ?_
              refine y_then (hK60 _ _ ?_)
              refine y_region ?_
              refine y_k (.int .i64 k15_46 : Value) w_53 rfl rfl rfl (by kernel_rfl) ?_
              refine y_k (.int .i64 (IntKind.i64.wrap (k15_46 + 1)) : Value) w_53 rfl rfl rfl (by kernel_rfl) ?_
              refine y_k (.int .i64 (IntKind.i64.wrap (k15_46 + 1)) : Value) w_53 rfl rfl rfl (by kernel_rfl) ?_
              refine y_nil ?_
              refine y_then (hN55 (IntKind.i64.wrap (k15_46 + 1)) _ _ h ?_)
              try dsimp only
              refine upd_id ?_ rfl
              refine upd_id ?_ rfl
              refine upd_id ?_ rfl
              refine upd_id ?_ rfl
              refine upd_id ?_ rfl
              refine upd_id ?_ rfl
              refine upd_id ?_ rfl
              refine upd_id ?_ rfl
              refine upd_id ?_ rfl
              refine upd_id ?_ rfl
              rfl
            · replace h := h.2 (of_decide_eq_false hb68)
              refine y_exit ?_
              repeat (first | refine e_then_x ?_ | refine e_block_y rfl ?_)
              refine e_block_x ?_
              refine y_then (hK51 _ _ ?_)
              refine y_region ?_
              refine y_k (.slice lists6_7.a lists6_7.n lists6_7.c : Value) w_47 rfl rfl rfl (by kernel_rfl) ?_
              refine y_k (.int .i64 i13_35 : Value) w_47 rfl rfl rfl (by kernel_rfl) ?_
              obtain ⟨hx66a, hx66b, a_54, hx66, h⟩ := h
              refine y_v (v := (.pointer (some (a_54.add (Int.toNat i13_35))) : Value)) (s := Instr.indexAt 40 (.slice lists6_7.a lists6_7.n lists6_7.c : Value) (.int .i64 i13_35 : Value)) rfl rfl rfl (by kernel_rfl) (run_ixs1 (el := 22) (by kernel_rfl) (by kernel_rfl) hx66 hx66a hx66b) ?_
              obtain ⟨hx67, h⟩ := h
              replace h := h _ rfl
              refine y_u (s := Instr.storeAt 22 (.pointer (some (a_54.add (Int.toNat i13_35)))) (.slice none 0 0 : Value)) rfl rfl (by kernel_rfl) (rn_store1 (by kernel_rfl) rfl hx67) ?_
              generalize w_47.setCell (a_54.add (Int.toNat i13_35)) (.slice none 0 0 : Value) = w_55 at h ⊢
              refine y_nil ?_
              refine e_block_n ?_
              refine y_then (hK38 _ _ ?_)
              refine y_region ?_
              refine y_k (.int .i64 i13_35 : Value) w_55 rfl rfl rfl (by kernel_rfl) ?_
              refine y_k (.int .i64 (IntKind.i64.wrap (i13_35 + 1)) : Value) w_55 rfl rfl rfl (by kernel_rfl) ?_
              refine y_k (.int .i64 (IntKind.i64.wrap (i13_35 + 1)) : Value) w_55 rfl rfl rfl (by kernel_rfl) ?_
              refine y_nil ?_
              refine y_then (hN35 (IntKind.i64.wrap (i13_35 + 1)) _ _ h ?_)
              try dsimp only
              refine upd_id ?_ rfl
              refine upd_id ?_ rfl
              refine upd_id ?_ rfl
              refine upd_id ?_ rfl
              refine upd_id ?_ rfl
              refine upd_id ?_ rfl
              refine upd_id ?_ rfl
              refine upd_id ?_ rfl
              refine upd_id ?_ rfl
              rfl
        · replace h := h.2 (of_decide_eq_false hb72)
          refine y_exit ?_
          repeat (first | refine e_then_x ?_ | refine e_block_y rfl ?_)
          refine e_block_x ?_
          refine y_then (hK31 _ _ ?_)
          refine y_seq fun K70 hK70 => ?_
          refine y_region ?_
          refine y_k (.pointer (some (⟨w_36.heap.size, 0, none⟩ : Addr)) : Value) (w_36.alloc (.cells #[.int .i64 0] 3)) rfl rfl rfl (by kernel_rfl) ?_
          replace h := h _ rfl
          generalize w_36.alloc (.cells #[.int .i64 0] 3) = w_56 at h ⊢
          obtain ⟨hx71, h⟩ := h
          replace h := h _ rfl
          refine y_u (s := Instr.storeAt 3 (.pointer (some (⟨w_36.heap.size, 0, none⟩ : Addr))) (.int .i64 0 : Value)) rfl rfl (by kernel_rfl) (rn_store1 (by kernel_rfl) rfl hx71) ?_
          generalize w_56.setCell (⟨w_36.heap.size, 0, none⟩ : Addr) (.int .i64 0 : Value) = w_57 at h ⊢
          refine y_nil ?_
          refine y_then (hK70 _ _ ?_)
          unfold F6_cut at h
          exact h _ rfl rfl rfl rfl rfl rfl rfl
  · replace h := h.2 (of_decide_eq_false hb12)
    refine y_frame (upd_id (i := 24) (v := .bool false) rfl (congrArg Value.bool hb12)) ?_
    refine y_gno rfl rfl rfl rfl ?_
    refine y_gno rfl rfl rfl rfl ?_
    refine y_k (.bool false : Value) w_10 rfl rfl rfl (by kernel_rfl) ?_
    refine y_nil ?_
    refine y_then (hK11 _ _ ?_)
    refine y_cond_f rfl rfl ?_
    refine y_exit ?_
    repeat (first | refine e_then_x ?_ | refine e_block_y rfl ?_)
    refine e_block_x ?_
    refine y_then (hK5 _ _ ?_)
    refine y_seq fun K75 hK75 => ?_
    refine y_region ?_
    refine y_k (.slice copies7_8.a copies7_8.n copies7_8.c : Value) w_10 rfl rfl rfl (by kernel_rfl) ?_
    refine y_call rfl rfl rfl (by kernel_rfl) (h.mono ?_)
    rintro _ w_60 ⟨t46_58, t46_59, rfl, h⟩
    refine ⟨_, rfl, ?_⟩
    refine y_k (.tuple #[.slice t46_58.a t46_58.n t46_58.c, .slice t46_59.a t46_59.n t46_59.c] : Value) w_60 rfl rfl rfl (by kernel_rfl) ?_
    refine y_k (.slice t46_58.a t46_58.n t46_58.c : Value) w_60 rfl rfl rfl (by kernel_rfl) ?_
    refine y_k (.slice t46_59.a t46_59.n t46_59.c : Value) w_60 rfl rfl rfl (by kernel_rfl) ?_
    refine y_k (.pointer (some (⟨w_60.heap.size, 0, none⟩ : Addr)) : Value) (w_60.alloc (.cells #[.slice none 0 0] 22)) rfl rfl rfl (by kernel_rfl) ?_
    replace h := h _ rfl
    generalize w_60.alloc (.cells #[.slice none 0 0] 22) = w_61 at h ⊢
    refine y_k (.pointer (some (⟨w_61.heap.size, 0, none⟩ : Addr)) : Value) (w_61.alloc (.cells #[.slice none 0 0] 41)) rfl rfl rfl (by kernel_rfl) ?_
    replace h := h _ rfl
    generalize w_61.alloc (.cells #[.slice none 0 0] 41) = w_62 at h ⊢
    obtain ⟨hx76, h⟩ := h
    replace h := h _ rfl
    refine y_u (s := Instr.storeAt 22 (.pointer (some (⟨w_60.heap.size, 0, none⟩ : Addr))) (.slice t46_58.a t46_58.n t46_58.c : Value)) rfl rfl (by kernel_rfl) (rn_store1 (by kernel_rfl) rfl hx76) ?_
    generalize w_62.setCell (⟨w_60.heap.size, 0, none⟩ : Addr) (.slice t46_58.a t46_58.n t46_58.c : Value) = w_63 at h ⊢
    obtain ⟨hx77, h⟩ := h
    replace h := h _ rfl
    refine y_u (s := Instr.storeAt 41 (.pointer (some (⟨w_61.heap.size, 0, none⟩ : Addr))) (.slice t46_59.a t46_59.n t46_59.c : Value)) rfl rfl (by kernel_rfl) (rn_store1 (by kernel_rfl) rfl hx77) ?_
    generalize w_63.setCell (⟨w_61.heap.size, 0, none⟩ : Addr) (.slice t46_59.a t46_59.n t46_59.c : Value) = w_64 at h ⊢
    refine y_nil ?_
    refine y_then (hK75 _ _ ?_)
    refine y_seq fun K78 hK78 => ?_
    refine y_region ?_
    refine y_k (.slice lists6_7.a lists6_7.n lists6_7.c : Value) w_64 rfl rfl rfl (by kernel_rfl) ?_
    refine y_call rfl rfl rfl (by kernel_rfl) (h.mono ?_)
    rintro _ w_66 ⟨t50_65, rfl, h⟩
    refine ⟨_, rfl, ?_⟩
    refine y_k t50_65 w_66 rfl rfl rfl (by kernel_rfl) ?_
    refine y_nil ?_
    refine y_then (hK78 _ _ ?_)
    refine y_seq fun K79 hK79 => ?_
    refine y_seq fun K80 hK80 => ?_
    refine y_region ?_
    refine y_k t50_65 w_66 rfl rfl rfl (by kernel_rfl) ?_
    obtain ⟨t52_67, hx81, h⟩ := h
    refine y_v (s := do eqGuard .eql 45 (Operand.tmp 51) (Operand.const Value.nilFunc) t50_65 (Value.nilFunc); binOp .eql 45 t50_65 (Value.nilFunc)) rfl rfl rfl (by kernel_rfl) (hx81) ?_
    refine y_nil ?_
    refine y_then (hK80 _ _ ?_)
    refine y_cond (t52_67) rfl rfl (fun hb127 => ?_) (fun hb127 => ?_)
    · replace h := h.1 (hb127)
      refine y_seq fun K82 hK82 => ?_
      refine y_region ?_
      obtain ⟨hx83, h⟩ := h
      replace h := h _ rfl
      refine y_u (s := Instr.storeAt 4 (.pointer (some (⟨w_3.heap.size, 0, none⟩ : Addr))) (.bool false : Value)) rfl rfl (by kernel_rfl) (rn_store1 (by kernel_rfl) rfl hx83) ?_
      generalize w_66.setCell (⟨w_3.heap.size, 0, none⟩ : Addr) (.bool false : Value) = w_68 at h ⊢
      refine y_nil ?_
      refine y_then (hK82 _ _ ?_)
      refine y_ret ?_
      repeat (first | refine e_then_r ?_ | refine e_block_r ?_)
      obtain ⟨r0_69, hx84, h⟩ := h
      exact (hQ0 _ _ _ (rs1 rfl (rs_cell (v := (.bool r0_69 : Value)) (ad := (⟨w_3.heap.size, 0, none⟩ : Addr)) rfl rfl (rn_load (by kernel_rfl) hx84))) ⟨_, rfl, h⟩).1
    · replace h := h.2 (hb127)
      refine y_skip ?_
      refine y_then (hK79 _ _ ?_)
      refine y_seq fun K85 hK85 => ?_
      refine y_seq fun K86 hK86 => ?_
      refine y_region ?_
      refine y_k (.int .i64 0 : Value) w_66 rfl rfl rfl (by kernel_rfl) ?_
      refine y_nil ?_
      refine y_then (hK86 _ _ ?_)
      refine y_block ?_
      refine y_loop (S := Int) (fun s j => match s with | (i13_70) => upd (upd (upd (upd (upd (upd (upd (upd (upd (j) 3 (.pointer (some (⟨w.heap.size, 0, none⟩ : Addr)) : Value)) 4 (.pointer (some (⟨w_3.heap.size, 0, none⟩ : Addr)) : Value)) 5 (.bool t19_5 : Value)) 6 (.slice lists6_7.a lists6_7.n lists6_7.c : Value)) 7 (.slice copies7_8.a copies7_8.n copies7_8.c : Value)) 10 (.pointer (some (⟨w_60.heap.size, 0, none⟩ : Addr)) : Value)) 11 (.pointer (some (⟨w_61.heap.size, 0, none⟩ : Addr)) : Value)) 12 t50_65) 13 (.int .i64 i13_70 : Value)) (0) ?_ h ?_
      · try dsimp only
        refine upd_id ?_ rfl
        refine upd_id ?_ rfl
        refine upd_id ?_ rfl
        refine upd_id ?_ rfl
        refine upd_id ?_ rfl
        refine upd_id ?_ rfl
        refine upd_id ?_ rfl
        refine upd_id ?_ rfl
        refine upd_id ?_ rfl
        rfl
      rintro KN89 next88 hN89 i13_70 j w_71 h
      unfold F6_l4 at h
      refine y_seq fun K90 hK90 => ?_
      refine y_seq fun K91 hK91 => ?_
      refine y_region ?_
      refine y_k (.int .i64 i13_70 : Value) w_71 rfl rfl rfl (by kernel_rfl) ?_
      refine y_k (.slice lists6_7.a lists6_7.n lists6_7.c : Value) w_71 rfl rfl rfl (by kernel_rfl) ?_
      refine y_k (.int .i64 ((lists6_7.n : Int)) : Value) w_71 rfl rfl rfl (by kernel_rfl) ?_
      refine y_k (.bool (decide (i13_70 < ((lists6_7.n : Int)))) : Value) w_71 rfl rfl rfl (by kernel_rfl) ?_
      refine y_nil ?_
      refine y_then (hK91 _ _ ?_)
      refine y_cond (decide (i13_70 < ((lists6_7.n : Int)))) rfl rfl (fun hb126 => ?_) (fun hb126 => ?_)
      · replace h := h.1 (of_decide_eq_true hb126)
        refine y_skip ?_
        refine y_then (hK90 _ _ ?_)
        refine y_seq fun K92 hK92 => ?_
        refine y_block ?_
        refine y_seq fun K94 hK94 => ?_
        obtain ⟨w_72, hwd95⟩ : ∃ wd : World, wd = w_71.drew := ⟨_, rfl⟩
        replace h := h _ hwd95
        refine t_region (wd := w_72) [] (by kernel_rfl) hwd95 SF_nil fun Q95 hE95 hp95 hS => ?_
        clear hwd95
        refine t_kw hp95 hS 0 (.slice lists6_7.a lists6_7.n lists6_7.c : Value) rfl (wanted_none rfl) rfl rfl (by kernel_rfl) (fun _ _ => by kernel_rfl) fun hS => ?_
        refine t_kw hp95 hS 1 (.int .i64 i13_70 : Value) rfl (wanted_none rfl) rfl rfl (by kernel_rfl) (fun _ _ => by kernel_rfl) fun hS => ?_
        obtain ⟨hx96a, hx96b, a_73, hx96, h⟩ := h
        refine t_v (s := Instr.indexAt 40 (.slice lists6_7.a lists6_7.n lists6_7.c : Value) (.int .i64 i13_70 : Value)) hp95 hS 2 (.pointer (some (a_73.add (Int.toNat i13_70))) : Value) rfl (wanted_none rfl) rfl rfl (by kernel_rfl) (by kernel_rfl) (fun _ _ => run_ixs1 (el := 22) (by kernel_rfl) (by kernel_rfl) hx96 hx96a hx96b) fun hS => ?_
        obtain ⟨t62_74, hx97, h⟩ := h
        refine t_add ⟨3, [8], fun wx => wx.cell? (a_73.add (Int.toNat i13_70)) = some (.slice t62_74.a t62_74.n t62_74.c)⟩ ?_
        replace hS := SF_on (x := ⟨3, [8], fun wx => wx.cell? (a_73.add (Int.toNat i13_70)) = some (.slice t62_74.a t62_74.n t62_74.c)⟩) hx97 hS
        refine t_v (s := Instr.loadAt 22 (.pointer (some (a_73.add (Int.toNat i13_70))))) hp95 hS 3 (.slice t62_74.a t62_74.n t62_74.c : Value) rfl (wanted_none rfl) rfl rfl (by kernel_rfl) (by kernel_rfl) (fun _ hw => rn_load (by kernel_rfl) (Sw.fact (List.Mem.head _) rfl hw)) fun hS => ?_
        refine t_kw hp95 hS 4 (.slice copies7_8.a copies7_8.n copies7_8.c : Value) rfl (wanted_none rfl) rfl rfl (by kernel_rfl) (fun _ _ => by kernel_rfl) fun hS => ?_
        refine t_kw hp95 hS 5 (.int .i64 i13_70 : Value) rfl (wanted_none rfl) rfl rfl (by kernel_rfl) (fun _ _ => by kernel_rfl) fun hS => ?_
        obtain ⟨hx98a, hx98b, a_75, hx98, h⟩ := h
        refine t_v (s := Instr.indexAt 40 (.slice copies7_8.a copies7_8.n copies7_8.c : Value) (.int .i64 i13_70 : Value)) hp95 hS 6 (.pointer (some (a_75.add (Int.toNat i13_70))) : Value) rfl (wanted_none rfl) rfl rfl (by kernel_rfl) (by kernel_rfl) (fun _ _ => run_ixs1 (el := 22) (by kernel_rfl) (by kernel_rfl) hx98 hx98a hx98b) fun hS => ?_
        obtain ⟨t66_76, hx99, h⟩ := h
        refine t_add ⟨7, [8], fun wx => wx.cell? (a_75.add (Int.toNat i13_70)) = some (.slice t66_76.a t66_76.n t66_76.c)⟩ ?_
        replace hS := SF_on (x := ⟨7, [8], fun wx => wx.cell? (a_75.add (Int.toNat i13_70)) = some (.slice t66_76.a t66_76.n t66_76.c)⟩) hx99 hS
        refine t_v (s := Instr.loadAt 22 (.pointer (some (a_75.add (Int.toNat i13_70))))) hp95 hS 7 (.slice t66_76.a t66_76.n t66_76.c : Value) rfl (wanted_none rfl) rfl rfl (by kernel_rfl) (by kernel_rfl) (fun _ hw => rn_load (by kernel_rfl) (Sw.fact (List.Mem.head _) rfl hw)) fun hS => ?_
        refine t_call 8 (by kernel_rfl) rfl (wanted_none rfl) rfl rfl (by kernel_rfl) (h.mono ?_)
        rintro _ w_78 ⟨t67_77, rfl, h⟩
        refine ⟨_, rfl, (SF_off (by kernel_rfl) (by kernel_rfl) (SF_off (by kernel_rfl) (by kernel_rfl) SF_nil)), fun hS => ?_⟩
        refine t_kw hp95 hS 9 (.bool t67_77 : Value) rfl (wanted_none rfl) rfl rfl (by kernel_rfl) (fun _ _ => by kernel_rfl) fun hS => ?_
        refine t_done (by kernel_rfl) (hE95 _ _ ?_)
        refine y_then (hK94 _ _ ?_)
        refine y_seq fun K100 hK100 => ?_
        refine y_seq fun K101 hK101 => ?_
        refine y_region ?_
        refine y_k (.bool t67_77 : Value) w_78 rfl rfl rfl (by kernel_rfl) ?_
        refine y_k (.bool (!(t67_77)) : Value) w_78 rfl rfl rfl (by kernel_rfl) ?_
        refine y_nil ?_
        refine y_then (hK101 _ _ ?_)
        refine y_cond (!(t67_77)) rfl rfl (fun hb123 => ?_) (fun hb123 => ?_)
        · replace h := h.1 ((not_true_of hb123))
          refine y_seq fun K102 hK102 => ?_
          refine y_region ?_
          obtain ⟨hx103, h⟩ := h
          replace h := h _ rfl
          refine y_u (s := Instr.storeAt 4 (.pointer (some (⟨w_3.heap.size, 0, none⟩ : Addr))) (.bool false : Value)) rfl rfl (by kernel_rfl) (rn_store1 (by kernel_rfl) rfl hx103) ?_
          generalize w_78.setCell (⟨w_3.heap.size, 0, none⟩ : Addr) (.bool false : Value) = w_79 at h ⊢
          refine y_nil ?_
          refine y_then (hK102 _ _ ?_)
          refine y_ret ?_
          repeat (first | refine e_then_r ?_ | refine e_block_r ?_)
          obtain ⟨r0_80, hx104, h⟩ := h
          exact (hQ0 _ _ _ (rs1 rfl (rs_cell (v := (.bool r0_80 : Value)) (ad := (⟨w_3.heap.size, 0, none⟩ : Addr)) rfl rfl (rn_load (by kernel_rfl) hx104))) ⟨_, rfl, h⟩).1
        · replace h := h.2 ((not_false_of hb123))
          refine y_skip ?_
          refine y_then (hK100 _ _ ?_)
          refine y_seq fun K105 hK105 => ?_
          refine y_seq fun K106 hK106 => ?_
          refine y_region ?_
          refine y_k (.int .i64 0 : Value) w_78 rfl rfl rfl (by kernel_rfl) ?_
          refine y_nil ?_
          refine y_then (hK106 _ _ ?_)
          refine y_block ?_
          refine y_loop (S := Int) (fun s j => match s with | (k15_81) => upd (upd (upd (upd (upd (upd (upd (upd (upd (upd (j) 3 (.pointer (some (⟨w.heap.size, 0, none⟩ : Addr)) : Value)) 4 (.pointer (some (⟨w_3.heap.size, 0, none⟩ : Addr)) : Value)) 5 (.bool t19_5 : Value)) 6 (.slice lists6_7.a lists6_7.n lists6_7.c : Value)) 7 (.slice copies7_8.a copies7_8.n copies7_8.c : Value)) 10 (.pointer (some (⟨w_60.heap.size, 0, none⟩ : Addr)) : Value)) 11 (.pointer (some (⟨w_61.heap.size, 0, none⟩ : Addr)) : Value)) 12 t50_65) 13 (.int .i64 i13_70 : Value)) 15 (.int .i64 k15_81 : Value)) (0) ?_ h ?_
          · try dsimp only
            refine upd_id ?_ rfl
            refine upd_id ?_ rfl
            refine upd_id ?_ rfl
            refine upd_id ?_ rfl
            refine upd_id ?_ rfl
            refine upd_id ?_ rfl
            refine upd_id ?_ rfl
            refine upd_id ?_ rfl
            refine upd_id ?_ rfl
            refine upd_id ?_ rfl
            rfl
          rintro KN109 next108 hN109 k15_81 j w_82 h
          unfold F6_l5 at h
          refine y_seq fun K110 hK110 => ?_
          refine y_seq fun K111 hK111 => ?_
          refine y_region ?_
          refine y_k (.int .i64 k15_81 : Value) w_82 rfl rfl rfl (by kernel_rfl) ?_
          refine y_k (.slice lists6_7.a lists6_7.n lists6_7.c : Value) w_82 rfl rfl rfl (by kernel_rfl) ?_
          refine y_k (.int .i64 i13_70 : Value) w_82 rfl rfl rfl (by kernel_rfl) ?_
          obtain ⟨hx112a, hx112b, a_83, hx112, h⟩ := h
          refine y_v (v := (.pointer (some (a_83.add (Int.toNat i13_70))) : Value)) (s := Instr.indexAt 40 (.slice lists6_7.a lists6_7.n lists6_7.c : Value) (.int .i64 i13_70 : Value)) rfl rfl rfl (by kernel_rfl) (run_ixs1 (el := 22) (by kernel_rfl) (by kernel_rfl) hx112 hx112a hx112b) ?_
          obtain ⟨t74_84, hx113, h⟩ := h
          refine y_v (s := Instr.loadAt 22 (.pointer (some (a_83.add (Int.toNat i13_70))))) rfl rfl rfl (by kernel_rfl) (rn_load (by kernel_rfl) hx113) ?_
          refine y_k (.int .i64 ((t74_84.n : Int)) : Value) w_82 rfl rfl rfl (by kernel_rfl) ?_
          refine y_k (.bool (decide (k15_81 < ((t74_84.n : Int)))) : Value) w_82 rfl rfl rfl (by kernel_rfl) ?_
          refine y_nil ?_
          refine y_then (hK111 _ _ ?_)
          refine y_cond (decide (k15_81 < ((t74_84.n : Int)))) rfl rfl (fun hb122 => ?_) (fun hb122 => ?_)
          · replace h := h.1 (of_decide_eq_true hb122)
            refine y_skip ?_
            refine y_then (hK110 _ _ ?_)
            refine y_seq fun K114 hK114 => ?_
            refine y_block ?_
            refine y_region ?_
            refine y_k (.slice lists6_7.a lists6_7.n lists6_7.c : Value) w_82 rfl rfl rfl (by kernel_rfl) ?_
            refine y_k (.int .i64 i13_70 : Value) w_82 rfl rfl rfl (by kernel_rfl) ?_
            obtain ⟨hx116a, hx116b, a_85, hx116, h⟩ := h
            refine y_v (v := (.pointer (some (a_85.add (Int.toNat i13_70))) : Value)) (s := Instr.indexAt 40 (.slice lists6_7.a lists6_7.n lists6_7.c : Value) (.int .i64 i13_70 : Value)) rfl rfl rfl (by kernel_rfl) (run_ixs1 (el := 22) (by kernel_rfl) (by kernel_rfl) hx116 hx116a hx116b) ?_
            obtain ⟨t82_86, hx117, h⟩ := h
            refine y_v (s := Instr.loadAt 22 (.pointer (some (a_85.add (Int.toNat i13_70))))) rfl rfl rfl (by kernel_rfl) (rn_load (by kernel_rfl) hx117) ?_
            refine y_k (.int .i64 k15_81 : Value) w_82 rfl rfl rfl (by kernel_rfl) ?_
            obtain ⟨hx118a, hx118b, a_87, hx118, h⟩ := h
            refine y_v (v := (.pointer (some (a_87.add (Int.toNat k15_81))) : Value)) (s := Instr.indexAt 22 (.slice t82_86.a t82_86.n t82_86.c : Value) (.int .i64 k15_81 : Value)) rfl rfl rfl (by kernel_rfl) (run_ixs1 (el := 23) (by kernel_rfl) (by kernel_rfl) hx118 hx118a hx118b) ?_
            obtain ⟨hx119, h⟩ := h
            replace h := h _ rfl
            refine y_u (s := Instr.storeAt 23 (.pointer (some (a_87.add (Int.toNat k15_81)))) (.int .u32 9 : Value)) rfl rfl (by kernel_rfl) (rn_store1 (by kernel_rfl) rfl hx119) ?_
            generalize w_82.setCell (a_87.add (Int.toNat k15_81)) (.int .u32 9 : Value) = w_88 at h ⊢
            refine y_nil ?_
            refine e_block_n ?_
            refine y_then (hK114 _ _ ?_)
            refine y_region ?_
            refine y_k (.int .i64 k15_81 : Value) w_88 rfl rfl rfl (by kernel_rfl) ?_
            refine y_k (.int .i64 (IntKind.i64.wrap (k15_81 + 1)) : Value) w_88 rfl rfl rfl (by kernel_rfl) ?_
            refine y_k (.int .i64 (IntKind.i64.wrap (k15_81 + 1)) : Value) w_88 rfl rfl rfl (by kernel_rfl) ?_
            refine y_nil ?_
            refine y_then (hN109 (IntKind.i64.wrap (k15_81 + 1)) _ _ h ?_)
            try dsimp only
            refine upd_id ?_ rfl
            refine upd_id ?_ rfl
            refine upd_id ?_ rfl
            refine upd_id ?_ rfl
            refine upd_id ?_ rfl
            refine upd_id ?_ rfl
            refine upd_id ?_ rfl
            refine upd_id ?_ rfl
            refine upd_id ?_ rfl
            refine upd_id ?_ rfl
            rfl
          · replace h := h.2 (of_decide_eq_false hb122)
            refine y_exit ?_
            repeat (first | refine e_then_x ?_ | refine e_block_y rfl ?_)
            refine e_block_x ?_
            refine y_then (hK105 _ _ ?_)
            refine y_region ?_
            refine y_k (.slice lists6_7.a lists6_7.n lists6_7.c : Value) w_82 rfl rfl rfl (by kernel_rfl) ?_
            refine y_k (.int .i64 i13_70 : Value) w_82 rfl rfl rfl (by kernel_rfl) ?_
            obtain ⟨hx120a, hx120b, a_89, hx120, h⟩ := h
            refine y_v (v := (.pointer (some (a_89.add (Int.toNat i13_70))) : Value)) (s := Instr.indexAt 40 (.slice lists6_7.a lists6_7.n lists6_7.c : Value) (.int .i64 i13_70 : Value)) rfl rfl rfl (by kernel_rfl) (run_ixs1 (el := 22) (by kernel_rfl) (by kernel_rfl) hx120 hx120a hx120b) ?_
            obtain ⟨hx121, h⟩ := h
            replace h := h _ rfl
            refine y_u (s := Instr.storeAt 22 (.pointer (some (a_89.add (Int.toNat i13_70)))) (.slice none 0 0 : Value)) rfl rfl (by kernel_rfl) (rn_store1 (by kernel_rfl) rfl hx121) ?_
            generalize w_82.setCell (a_89.add (Int.toNat i13_70)) (.slice none 0 0 : Value) = w_90 at h ⊢
            refine y_nil ?_
            refine e_block_n ?_
            refine y_then (hK92 _ _ ?_)
            refine y_region ?_
            refine y_k (.int .i64 i13_70 : Value) w_90 rfl rfl rfl (by kernel_rfl) ?_
            refine y_k (.int .i64 (IntKind.i64.wrap (i13_70 + 1)) : Value) w_90 rfl rfl rfl (by kernel_rfl) ?_
            refine y_k (.int .i64 (IntKind.i64.wrap (i13_70 + 1)) : Value) w_90 rfl rfl rfl (by kernel_rfl) ?_
            refine y_nil ?_
            refine y_then (hN89 (IntKind.i64.wrap (i13_70 + 1)) _ _ h ?_)
            try dsimp only
            refine upd_id ?_ rfl
            refine upd_id ?_ rfl
            refine upd_id ?_ rfl
            refine upd_id ?_ rfl
            refine upd_id ?_ rfl
            refine upd_id ?_ rfl
            refine upd_id ?_ rfl
            refine upd_id ?_ rfl
            refine upd_id ?_ rfl
            rfl
      · replace h := h.2 (of_decide_eq_false hb126)
        refine y_exit ?_
        repeat (first | refine e_then_x ?_ | refine e_block_y rfl ?_)
        refine e_block_x ?_
        refine y_then (hK85 _ _ ?_)
        refine y_seq fun K124 hK124 => ?_
        refine y_region ?_
        refine y_k (.pointer (some (⟨w_71.heap.size, 0, none⟩ : Addr)) : Value) (w_71.alloc (.cells #[.int .i64 0] 3)) rfl rfl rfl (by kernel_rfl) ?_
        replace h := h _ rfl
        generalize w_71.alloc (.cells #[.int .i64 0] 3) = w_91 at h ⊢
        obtain ⟨hx125, h⟩ := h
        replace h := h _ rfl
        refine y_u (s := Instr.storeAt 3 (.pointer (some (⟨w_71.heap.size, 0, none⟩ : Addr))) (.int .i64 0 : Value)) rfl rfl (by kernel_rfl) (rn_store1 (by kernel_rfl) rfl hx125) ?_
        generalize w_91.setCell (⟨w_71.heap.size, 0, none⟩ : Addr) (.int .i64 0 : Value) = w_92 at h ⊢
        refine y_nil ?_
        refine y_then (hK124 _ _ ?_)
        unfold F6_cut at h
        exact h _ rfl rfl rfl rfl rfl rfl rfl

end Go.Proofs.Ytjgijifankaglaa
