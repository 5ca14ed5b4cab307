/- Printed by gen.py (own program, wip/): for each Go function a predicate transformer and its soundness. -/
import Derived.Test.YtjgijifankaglaaProg
import Derived.Test.YtjgijifankaglaaST
import Derived.Test.YtjgijifankaglaaWA
namespace Go.Proofs.Ytjgijifankaglaa
open Go Go.RowKit Go.Proofs.Ytjgijifankaglaa.SX
set_option linter.unusedVariables false

def F74_j3 (t16_10 : Int) (next13 : (Int × Bool × Int) → World → Prop) (least4_20 : Int) (some5_21 : Bool) (w_22 : World) : Prop :=
  next13 (least4_20, some5_21, IntKind.i64.wrap (t16_10 + 1)) w_22
def F74_j5 (t55_33 : Int) (next47 : (Int × Int) → World → Prop) (many8_47 : Int) (w_48 : World) : Prop :=
  next47 (many8_47, IntKind.i64.wrap (t55_33 + 1)) w_48
def F74_l4 (yield0_1 : Value) (K : World → Prop) (t13_4 : Sl) (next5 : (Unit) → World → Prop) (least4_8 : Int) (t53_31 : Sl) (next47 : (Int × Int) → World → Prop) : (Int × Int) → World → Prop := fun (many8_32, t55_33) w_34 =>
  ((t55_33 < ((t53_31.n : Int)) →
  (0 : Int) ≤ t55_33 ∧ t55_33 < (t53_31.n : Int) ∧ ∃ (a_35 : Addr), t53_31.a = some a_35 ∧
  ∃ (t59_36 : Sl), w_34.cell? (a_35.add (Int.toNat t55_33)) = some (.slice t59_36.a t59_36.n t59_36.c) ∧
  (0 : Int) ≤ t55_33 ∧ t55_33 < (t13_4.n : Int) ∧ ∃ (a_37 : Addr), t13_4.a = some a_37 ∧
  ∃ (t63_38 : Int), w_34.cell? (a_37.add (Int.toNat t55_33)) = some (.int .i64 t63_38) ∧
  ((t63_38 < ((t59_36.n : Int)) →
  (0 : Int) ≤ t55_33 ∧ t55_33 < (t13_4.n : Int) ∧ ∃ (a_39 : Addr), t13_4.a = some a_39 ∧
  ∃ (t72_40 : Int), w_34.cell? (a_39.add (Int.toNat t55_33)) = some (.int .i64 t72_40) ∧
  (0 : Int) ≤ t72_40 ∧ t72_40 < (t59_36.n : Int) ∧ ∃ (a_41 : Addr), t59_36.a = some a_41 ∧
  ∃ (t74_42 : Int), w_34.cell? (a_41.add (Int.toNat t72_40)) = some (.int .u32 t74_42) ∧
  ((t74_42 = least4_8 →
  (0 : Int) ≤ t55_33 ∧ t55_33 < (t13_4.n : Int) ∧ ∃ (a_43 : Addr), t13_4.a = some a_43 ∧
  ∃ (t83_44 : Int), w_34.cell? (a_43.add (Int.toNat t55_33)) = some (.int .i64 t83_44) ∧
  (0 : Int) ≤ t55_33 ∧ t55_33 < (t13_4.n : Int) ∧ ∃ (a_45 : Addr), t13_4.a = some a_45 ∧
  HasCell w_34 (a_45.add (Int.toNat t55_33)) ∧ ∀ (w_46 : World), w_46 = w_34.setCell (a_45.add (Int.toNat t55_33)) (.int .i64 (IntKind.i64.wrap (t83_44 + 1)) : Value) →
  F74_j5 t55_33 next47 (IntKind.i64.wrap (many8_32 + 1)) w_46) ∧
  (¬ t74_42 = least4_8 →
  F74_j5 t55_33 next47 many8_32 w_34))) ∧
  (¬ (t63_38 < ((t59_36.n : Int))) →
  F74_j5 t55_33 next47 many8_32 w_34))) ∧
  (¬ (t55_33 < ((t53_31.n : Int))) →
  YC Try.prog yield0_1 #[.int .u32 least4_8, .int .i64 many8_32] w_34 fun y_49 w_50 =>
  ((y_49 = false →
  K w_50) ∧
  (y_49 = true →
  next5 () w_50))))
def F74_l2 (yield0_1 : Value) (c_2 : Addr) (K : World → Prop) (t13_4 : Sl) (next5 : (Unit) → World → Prop) (t14_7 : Sl) (next13 : (Int × Bool × Int) → World → Prop) : (Int × Bool × Int) → World → Prop := fun (least4_8, some5_9, t16_10) w_11 =>
  ((t16_10 < ((t14_7.n : Int)) →
  (0 : Int) ≤ t16_10 ∧ t16_10 < (t14_7.n : Int) ∧ ∃ (a_12 : Addr), t14_7.a = some a_12 ∧
  ∃ (t20_13 : Sl), w_11.cell? (a_12.add (Int.toNat t16_10)) = some (.slice t20_13.a t20_13.n t20_13.c) ∧
  (0 : Int) ≤ t16_10 ∧ t16_10 < (t13_4.n : Int) ∧ ∃ (a_14 : Addr), t13_4.a = some a_14 ∧
  ∃ (t24_15 : Int), w_11.cell? (a_14.add (Int.toNat t16_10)) = some (.int .i64 t24_15) ∧
  ((t24_15 < ((t20_13.n : Int)) →
  ((some5_9 = false →
  (0 : Int) ≤ t16_10 ∧ t16_10 < (t13_4.n : Int) ∧ ∃ (a_16 : Addr), t13_4.a = some a_16 ∧
  ∃ (t47_17 : Int), w_11.cell? (a_16.add (Int.toNat t16_10)) = some (.int .i64 t47_17) ∧
  (0 : Int) ≤ t47_17 ∧ t47_17 < (t20_13.n : Int) ∧ ∃ (a_18 : Addr), t20_13.a = some a_18 ∧
  ∃ (t49_19 : Int), w_11.cell? (a_18.add (Int.toNat t47_17)) = some (.int .u32 t49_19) ∧
  F74_j3 t16_10 next13 t49_19 true w_11) ∧
  (some5_9 = true →
  (0 : Int) ≤ t16_10 ∧ t16_10 < (t13_4.n : Int) ∧ ∃ (a_23 : Addr), t13_4.a = some a_23 ∧
  ∃ (t36_24 : Int), w_11.cell? (a_23.add (Int.toNat t16_10)) = some (.int .i64 t36_24) ∧
  (0 : Int) ≤ t36_24 ∧ t36_24 < (t20_13.n : Int) ∧ ∃ (a_25 : Addr), t20_13.a = some a_25 ∧
  ∃ (t38_26 : Int), w_11.cell? (a_25.add (Int.toNat t36_24)) = some (.int .u32 t38_26) ∧
  ((t38_26 < least4_8 →
  (0 : Int) ≤ t16_10 ∧ t16_10 < (t13_4.n : Int) ∧ ∃ (a_27 : Addr), t13_4.a = some a_27 ∧
  ∃ (t47_28 : Int), w_11.cell? (a_27.add (Int.toNat t16_10)) = some (.int .i64 t47_28) ∧
  (0 : Int) ≤ t47_28 ∧ t47_28 < (t20_13.n : Int) ∧ ∃ (a_29 : Addr), t20_13.a = some a_29 ∧
  ∃ (t49_30 : Int), w_11.cell? (a_29.add (Int.toNat t47_28)) = some (.int .u32 t49_30) ∧
  F74_j3 t16_10 next13 t49_30 true w_11) ∧
  (¬ (t38_26 < least4_8) →
  F74_j3 t16_10 next13 least4_8 some5_9 w_11))))) ∧
  (¬ (t24_15 < ((t20_13.n : Int))) →
  F74_j3 t16_10 next13 least4_8 some5_9 w_11))) ∧
  (¬ (t16_10 < ((t14_7.n : Int))) →
  ((some5_9 = false →
  K w_11) ∧
  (some5_9 = true →
  ∃ (t53_31 : Sl), w_11.cell? c_2 = some (.slice t53_31.a t53_31.n t53_31.c) ∧
  kLoop (F74_l4 yield0_1 K t13_4 next5 least4_8 t53_31) (0, 0) w_11))))
def F74_l1 (yield0_1 : Value) (c_2 : Addr) (K : World → Prop) (t13_4 : Sl) (next5 : (Unit) → World → Prop) : (Unit) → World → Prop := fun () w_6 =>
  ∃ (t14_7 : Sl), w_6.cell? c_2 = some (.slice t14_7.a t14_7.n t14_7.c) ∧
  kLoop (F74_l2 yield0_1 c_2 K t13_4 next5 t14_7) (0, false, 0) w_6
/-- turnkey/post.Walk$2 -/
def F74 (yield0_1 : Value) (c_2 : Addr) (K : World → Prop) (w : World) : Prop :=
  ∃ (t11_3 : Sl), w.cell? c_2 = some (.slice t11_3.a t11_3.n t11_3.c) ∧
  ∃ (t13_4 : Sl), ∃ (w_5 : World), (Instr.makeSlice 41 (.int .i64 ((t11_3.n : Int)) : Value) (.int .i64 ((t11_3.n : Int)) : Value)).run Try.prog w = .ok (.slice t13_4.a t13_4.n t13_4.c : Value) w_5 ∧
  kLoop (F74_l1 yield0_1 c_2 K t13_4) () w_5
set_option maxHeartbeats 4000000 in
set_option maxRecDepth 20000 in
theorem F74_sound (yield0_1 : Value) (c_2 : Addr) (K : World → Prop) (w : World) (h : F74 yield0_1 c_2 K w) :
    Calls Try.prog 74 #[yield0_1, .pointer (some c_2)] w (fun e w1 => e = .returned (.tuple #[]) ∧ K  w1) := by
  unfold F74 at h
  refine y_enter (n := 92) (args := [yield0_1, .pointer (some c_2)]) Try.func74 rfl rfl rfl fun Q0 hQ0 => ?_
  refine y_seq fun K1 hK1 => ?_
  refine y_region ?_
  obtain ⟨t11_3, hx2, h⟩ := h
  refine y_v (s := Instr.loadAt 40 (.pointer (some c_2))) rfl rfl rfl (by kernel_rfl) (rn_load (by kernel_rfl) hx2) ?_
  refine y_k (.int .i64 ((t11_3.n : Int)) : Value) w rfl rfl rfl (by kernel_rfl) ?_
  obtain ⟨t13_4, w_5, hx3, h⟩ := h
  refine y_v (s := Instr.makeSlice 41 (.int .i64 ((t11_3.n : Int)) : Value) (.int .i64 ((t11_3.n : Int)) : Value)) rfl rfl rfl (by kernel_rfl) hx3 ?_
  refine y_k (.slice t13_4.a t13_4.n t13_4.c : Value) w_5 rfl rfl rfl (by kernel_rfl) ?_
  refine y_nil ?_
  refine y_then (hK1 _ _ ?_)
  refine y_block ?_
  refine y_loop (S := Unit) (fun s j => match s with | () => upd (upd (upd (j) 0 yield0_1) 1 (.pointer (some c_2) : Value)) 3 (.slice t13_4.a t13_4.n t13_4.c : Value)) () ?_ h ?_
  · try dsimp only
    refine upd_id ?_ rfl
    refine upd_id ?_ rfl
    refine upd_id ?_ rfl
    rfl
  rintro KN6 next5 hN6 _ j w_6 h
  unfold F74_l1 at h
  refine y_block ?_
  refine y_seq fun K8 hK8 => ?_
  refine y_region ?_
  refine y_k (.int .u32 0 : Value) w_6 rfl rfl rfl (by kernel_rfl) ?_
  refine y_k (.bool false : Value) w_6 rfl rfl rfl (by kernel_rfl) ?_
  refine y_nil ?_
  refine y_then (hK8 _ _ ?_)
  refine y_seq fun K9 hK9 => ?_
  refine y_seq fun K10 hK10 => ?_
  refine y_region ?_
  obtain ⟨t14_7, hx11, h⟩ := h
  refine y_v (s := Instr.loadAt 40 (.pointer (some c_2))) rfl rfl rfl (by kernel_rfl) (rn_load (by kernel_rfl) hx11) ?_
  refine y_k (.int .i64 ((t14_7.n : Int)) : Value) w_6 rfl rfl rfl (by kernel_rfl) ?_
  refine y_k (.int .i64 0 : Value) w_6 rfl rfl rfl (by kernel_rfl) ?_
  refine y_nil ?_
  refine y_then (hK10 _ _ ?_)
  refine y_block ?_
  refine y_loop (S := Int × Bool × Int) (fun s j => match s with | (least4_8, some5_9, t16_10) => upd (upd (upd (upd (upd (upd (upd (upd (j) 0 yield0_1) 1 (.pointer (some c_2) : Value)) 3 (.slice t13_4.a t13_4.n t13_4.c : Value)) 4 (.int .u32 least4_8 : Value)) 5 (.bool some5_9 : Value)) 14 (.slice t14_7.a t14_7.n t14_7.c : Value)) 15 (.int .i64 ((t14_7.n : Int)) : Value)) 16 (.int .i64 t16_10 : Value)) (0, false, 0) ?_ h ?_
  · try dsimp only
    refine upd_id ?_ rfl
    refine upd_id ?_ rfl
    refine upd_id ?_ rfl
    refine upd_id ?_ rfl
    refine upd_id ?_ rfl
    refine upd_id ?_ rfl
    refine upd_id ?_ rfl
    refine upd_id ?_ rfl
    rfl
  rintro KN14 next13 hN14 ⟨least4_8, some5_9, t16_10⟩ j w_11 h
  unfold F74_l2 at h
  refine y_seq fun K15 hK15 => ?_
  refine y_region ?_
  refine y_k (.bool (decide (t16_10 < ((t14_7.n : Int)))) : Value) w_11 rfl rfl rfl (by kernel_rfl) ?_
  refine y_nil ?_
  refine y_then (hK15 _ _ ?_)
  refine y_seq fun K16 hK16 => ?_
  refine y_cond (decide (t16_10 < ((t14_7.n : Int)))) rfl rfl (fun hb74 => ?_) (fun hb74 => ?_)
  · replace h := h.1 (of_decide_eq_true hb74)
    refine y_skip ?_
    refine y_then (hK16 _ _ ?_)
    refine y_seq fun K17 hK17 => ?_
    have hjK17 : ∀ (f : Fr) (least4_20 : Int) (some5_21 : Bool) (w_22 : World), f 0 = yield0_1 → f 1 = (.pointer (some c_2) : Value) → f 3 = (.slice t13_4.a t13_4.n t13_4.c : Value) → f 4 = (.int .u32 least4_20 : Value) → f 5 = (.bool some5_21 : Value) → f 14 = (.slice t14_7.a t14_7.n t14_7.c : Value) → f 15 = (.int .i64 ((t14_7.n : Int)) : Value) → f 16 = (.int .i64 t16_10 : Value) → F74_j3 t16_10 next13 least4_20 some5_21 w_22 → WK K17 92 f w_22 := by
      intro f least4_20 some5_21 w_22 e0 e1 e3 e4 e5 e14 e15 e16 h
      refine y_atf (upd_id (upd_id (upd_id (upd_id (upd_id (upd_id (upd_id (upd_id rfl e0) e1) e3) e4) e5) e14) e15) e16) ?_
      clear e0 e1 e3 e4 e5 e14 e15 e16
      unfold F74_j3 at h
      refine hK17 _ _ ?_
      refine y_region ?_
      refine y_k (.int .i64 (IntKind.i64.wrap (t16_10 + 1)) : Value) w_22 rfl rfl rfl (by kernel_rfl) ?_
      refine y_k (.int .i64 (IntKind.i64.wrap (t16_10 + 1)) : Value) w_22 rfl rfl rfl (by kernel_rfl) ?_
      refine y_nil ?_
      refine y_then (hN14 (least4_20, some5_21, IntKind.i64.wrap (t16_10 + 1)) _ _ h ?_)
      try dsimp only
      refine upd_id ?_ rfl
      refine upd_id ?_ rfl
      refine upd_id ?_ rfl
      refine upd_id ?_ rfl
      refine upd_id ?_ rfl
      refine upd_id ?_ rfl
      refine upd_id ?_ rfl
      refine upd_id ?_ rfl
      rfl
    refine y_block ?_
    refine y_seq fun K19 hK19 => ?_
    refine y_region ?_
    refine y_k (.int .i64 t16_10 : Value) w_11 rfl rfl rfl (by kernel_rfl) ?_
    obtain ⟨hx20a, hx20b, a_12, hx20, h⟩ := h
    refine y_v (v := (.pointer (some (a_12.add (Int.toNat t16_10))) : Value)) (s := Instr.indexAt 40 (.slice t14_7.a t14_7.n t14_7.c : Value) (.int .i64 t16_10 : Value)) rfl rfl rfl (by kernel_rfl) (run_ixs1 (el := 22) (by kernel_rfl) (by kernel_rfl) hx20 hx20a hx20b) ?_
    obtain ⟨t20_13, hx21, h⟩ := h
    refine y_v (s := Instr.loadAt 22 (.pointer (some (a_12.add (Int.toNat t16_10))))) rfl rfl rfl (by kernel_rfl) (rn_load (by kernel_rfl) hx21) ?_
    refine y_k (.int .i64 t16_10 : Value) w_11 rfl rfl rfl (by kernel_rfl) ?_
    refine y_k (.slice t20_13.a t20_13.n t20_13.c : Value) w_11 rfl rfl rfl (by kernel_rfl) ?_
    refine y_nil ?_
    refine y_then (hK19 _ _ ?_)
    refine y_seq fun K22 hK22 => ?_
    refine y_region ?_
    refine y_k (.slice t13_4.a t13_4.n t13_4.c : Value) w_11 rfl rfl rfl (by kernel_rfl) ?_
    refine y_k (.int .i64 t16_10 : Value) w_11 rfl rfl rfl (by kernel_rfl) ?_
    obtain ⟨hx23a, hx23b, a_14, hx23, h⟩ := h
    refine y_v (v := (.pointer (some (a_14.add (Int.toNat t16_10))) : Value)) (s := Instr.indexAt 41 (.slice t13_4.a t13_4.n t13_4.c : Value) (.int .i64 t16_10 : Value)) rfl rfl rfl (by kernel_rfl) (run_ixs1 (el := 3) (by kernel_rfl) (by kernel_rfl) hx23 hx23a hx23b) ?_
    obtain ⟨t24_15, hx24, h⟩ := h
    refine y_v (s := Instr.loadAt 3 (.pointer (some (a_14.add (Int.toNat t16_10))))) rfl rfl rfl (by kernel_rfl) (rn_load (by kernel_rfl) hx24) ?_
    refine y_k (.slice t20_13.a t20_13.n t20_13.c : Value) w_11 rfl rfl rfl (by kernel_rfl) ?_
    refine y_k (.int .i64 ((t20_13.n : Int)) : Value) w_11 rfl rfl rfl (by kernel_rfl) ?_
    refine y_k (.bool (decide (t24_15 < ((t20_13.n : Int)))) : Value) w_11 rfl rfl rfl (by kernel_rfl) ?_
    refine y_k (.bool (decide (t24_15 < ((t20_13.n : Int)))) : Value) w_11 rfl rfl rfl (by kernel_rfl) ?_
    refine y_fork (decide (t24_15 < ((t20_13.n : Int)))) (fun hb25 => ?_) (fun hb25 => ?_)
    · replace h := h.1 (of_decide_eq_true hb25)
      refine y_frame (upd_id (i := 28) (v := .bool true) rfl (congrArg Value.bool hb25)) ?_
      refine y_gyes rfl rfl rfl ?_
      refine y_k (.bool some5_9 : Value) w_11 rfl rfl rfl (by kernel_rfl) ?_
      refine y_gyes rfl rfl rfl ?_
      refine y_k (.bool (!(some5_9)) : Value) w_11 rfl rfl rfl (by kernel_rfl) ?_
      refine y_gyes rfl rfl rfl ?_
      refine y_k (.bool (!(some5_9)) : Value) w_11 rfl rfl rfl (by kernel_rfl) ?_
      refine y_fork (!(some5_9)) (fun hb26 => ?_) (fun hb26 => ?_)
      · replace h := h.1 ((not_true_of hb26))
        refine y_frame (upd_id (i := 31) (v := .bool true) rfl (congrArg Value.bool hb26)) ?_
        refine y_gno rfl rfl rfl rfl ?_
        refine y_gno rfl rfl rfl rfl ?_
        refine y_gno rfl rfl rfl rfl ?_
        refine y_gno rfl rfl rfl rfl ?_
        refine y_gno rfl rfl rfl rfl ?_
        refine y_gno rfl rfl rfl rfl ?_
        refine y_gno rfl rfl rfl rfl ?_
        refine y_gno rfl rfl rfl rfl ?_
        refine y_gno rfl rfl rfl rfl ?_
        refine y_gyes rfl rfl rfl ?_
        refine y_k (.bool true : Value) w_11 rfl rfl rfl (by kernel_rfl) ?_
        refine y_k (.bool true : Value) w_11 rfl rfl rfl (by kernel_rfl) ?_
        refine y_nil ?_
        refine y_then (hK22 _ _ ?_)
        refine y_cond_t rfl rfl ?_
        refine y_region ?_
        refine y_k (.slice t20_13.a t20_13.n t20_13.c : Value) w_11 rfl rfl rfl (by kernel_rfl) ?_
        refine y_k (.slice t13_4.a t13_4.n t13_4.c : Value) w_11 rfl rfl rfl (by kernel_rfl) ?_
        refine y_k (.int .i64 t16_10 : Value) w_11 rfl rfl rfl (by kernel_rfl) ?_
        obtain ⟨hx27a, hx27b, a_16, hx27, h⟩ := h
        refine y_v (v := (.pointer (some (a_16.add (Int.toNat t16_10))) : Value)) (s := Instr.indexAt 41 (.slice t13_4.a t13_4.n t13_4.c : Value) (.int .i64 t16_10 : Value)) rfl rfl rfl (by kernel_rfl) (run_ixs1 (el := 3) (by kernel_rfl) (by kernel_rfl) hx27 hx27a hx27b) ?_
        obtain ⟨t47_17, hx28, h⟩ := h
        refine y_v (s := Instr.loadAt 3 (.pointer (some (a_16.add (Int.toNat t16_10))))) rfl rfl rfl (by kernel_rfl) (rn_load (by kernel_rfl) hx28) ?_
        obtain ⟨hx29a, hx29b, a_18, hx29, h⟩ := h
        refine y_v (v := (.pointer (some (a_18.add (Int.toNat t47_17))) : Value)) (s := Instr.indexAt 22 (.slice t20_13.a t20_13.n t20_13.c : Value) (.int .i64 t47_17 : Value)) rfl rfl rfl (by kernel_rfl) (run_ixs1 (el := 23) (by kernel_rfl) (by kernel_rfl) hx29 hx29a hx29b) ?_
        obtain ⟨t49_19, hx30, h⟩ := h
        refine y_v (s := Instr.loadAt 23 (.pointer (some (a_18.add (Int.toNat t47_17))))) rfl rfl rfl (by kernel_rfl) (rn_load (by kernel_rfl) hx30) ?_
        refine y_k (.int .u32 t49_19 : Value) w_11 rfl rfl rfl (by kernel_rfl) ?_
        refine y_k (.bool true : Value) w_11 rfl rfl rfl (by kernel_rfl) ?_
        refine y_nil ?_
        refine e_block_n ?_
        exact y_then (hjK17 _ t49_19 true w_11 rfl rfl rfl rfl rfl rfl rfl rfl h)
      · replace h := h.2 ((not_false_of hb26))
        refine y_frame (upd_id (i := 31) (v := .bool false) rfl (congrArg Value.bool hb26)) ?_
        refine y_gyes rfl rfl rfl ?_
        refine y_k (.slice t20_13.a t20_13.n t20_13.c : Value) w_11 rfl rfl rfl (by kernel_rfl) ?_
        refine y_gyes rfl rfl rfl ?_
        refine y_k (.slice t13_4.a t13_4.n t13_4.c : Value) w_11 rfl rfl rfl (by kernel_rfl) ?_
        refine y_gyes rfl rfl rfl ?_
        refine y_k (.int .i64 t16_10 : Value) w_11 rfl rfl rfl (by kernel_rfl) ?_
        refine y_gyes rfl rfl rfl ?_
        obtain ⟨hx31a, hx31b, a_23, hx31, h⟩ := h
        refine y_v (v := (.pointer (some (a_23.add (Int.toNat t16_10))) : Value)) (s := Instr.indexAt 41 (.slice t13_4.a t13_4.n t13_4.c : Value) (.int .i64 t16_10 : Value)) rfl rfl rfl (by kernel_rfl) (run_ixs1 (el := 3) (by kernel_rfl) (by kernel_rfl) hx31 hx31a hx31b) ?_
        refine y_gyes rfl rfl rfl ?_
        obtain ⟨t36_24, hx32, h⟩ := h
        refine y_v (s := Instr.loadAt 3 (.pointer (some (a_23.add (Int.toNat t16_10))))) rfl rfl rfl (by kernel_rfl) (rn_load (by kernel_rfl) hx32) ?_
        refine y_gyes rfl rfl rfl ?_
        obtain ⟨hx33a, hx33b, a_25, hx33, h⟩ := h
        refine y_v (v := (.pointer (some (a_25.add (Int.toNat t36_24))) : Value)) (s := Instr.indexAt 22 (.slice t20_13.a t20_13.n t20_13.c : Value) (.int .i64 t36_24 : Value)) rfl rfl rfl (by kernel_rfl) (run_ixs1 (el := 23) (by kernel_rfl) (by kernel_rfl) hx33 hx33a hx33b) ?_
        refine y_gyes rfl rfl rfl ?_
        obtain ⟨t38_26, hx34, h⟩ := h
        refine y_v (s := Instr.loadAt 23 (.pointer (some (a_25.add (Int.toNat t36_24))))) rfl rfl rfl (by kernel_rfl) (rn_load (by kernel_rfl) hx34) ?_
        refine y_gyes rfl rfl rfl ?_
        refine y_k (.int .u32 least4_8 : Value) w_11 rfl rfl rfl (by kernel_rfl) ?_
        refine y_gyes rfl rfl rfl ?_
        refine y_k (.bool (decide (t38_26 < least4_8)) : Value) w_11 rfl rfl rfl (by kernel_rfl) ?_
        refine y_gyes rfl rfl rfl ?_
        refine y_k (.bool (decide (t38_26 < least4_8)) : Value) w_11 rfl rfl rfl (by kernel_rfl) ?_
        refine y_k (.bool (decide (t38_26 < least4_8)) : Value) w_11 rfl rfl rfl (by kernel_rfl) ?_
        refine y_nil ?_
        refine y_then (hK22 _ _ ?_)
        refine y_cond (decide (t38_26 < least4_8)) rfl rfl (fun hb39 => ?_) (fun hb39 => ?_)
        · replace h := h.1 (of_decide_eq_true hb39)
          refine y_region ?_
          refine y_k (.slice t20_13.a t20_13.n t20_13.c : Value) w_11 rfl rfl rfl (by kernel_rfl) ?_
          refine y_k (.slice t13_4.a t13_4.n t13_4.c : Value) w_11 rfl rfl rfl (by kernel_rfl) ?_
          refine y_k (.int .i64 t16_10 : Value) w_11 rfl rfl rfl (by kernel_rfl) ?_
          obtain ⟨hx35a, hx35b, a_27, hx35, h⟩ := h
          refine y_v (v := (.pointer (some (a_27.add (Int.toNat t16_10))) : Value)) (s := Instr.indexAt 41 (.slice t13_4.a t13_4.n t13_4.c : Value) (.int .i64 t16_10 : Value)) rfl rfl rfl (by kernel_rfl) (run_ixs1 (el := 3) (by kernel_rfl) (by kernel_rfl) hx35 hx35a hx35b) ?_
          obtain ⟨t47_28, hx36, h⟩ := h
          refine y_v (s := Instr.loadAt 3 (.pointer (some (a_27.add (Int.toNat t16_10))))) rfl rfl rfl (by kernel_rfl) (rn_load (by kernel_rfl) hx36) ?_
          obtain ⟨hx37a, hx37b, a_29, hx37, h⟩ := h
          refine y_v (v := (.pointer (some (a_29.add (Int.toNat t47_28))) : Value)) (s := Instr.indexAt 22 (.slice t20_13.a t20_13.n t20_13.c : Value) (.int .i64 t47_28 : Value)) rfl rfl rfl (by kernel_rfl) (run_ixs1 (el := 23) (by kernel_rfl) (by kernel_rfl) hx37 hx37a hx37b) ?_
          obtain ⟨t49_30, hx38, h⟩ := h
          refine y_v (s := Instr.loadAt 23 (.pointer (some (a_29.add (Int.toNat t47_28))))) rfl rfl rfl (by kernel_rfl) (rn_load (by kernel_rfl) hx38) ?_
          refine y_k (.int .u32 t49_30 : Value) w_11 rfl rfl rfl (by kernel_rfl) ?_
          refine y_k (.bool true : Value) w_11 rfl rfl rfl (by kernel_rfl) ?_
          refine y_nil ?_
          refine e_block_n ?_
          exact y_then (hjK17 _ t49_30 true w_11 rfl rfl rfl rfl rfl rfl rfl rfl h)
        · replace h := h.2 (of_decide_eq_false hb39)
          refine y_skip ?_
          refine e_block_n ?_
          exact y_then (hjK17 _ least4_8 some5_9 w_11 rfl rfl rfl rfl rfl rfl rfl rfl h)
    · replace h := h.2 (of_decide_eq_false hb25)
      refine y_frame (upd_id (i := 28) (v := .bool false) rfl (congrArg Value.bool hb25)) ?_
      refine y_gno rfl rfl rfl rfl ?_
      refine y_gno rfl rfl rfl rfl ?_
      refine y_gno rfl rfl rfl rfl ?_
      refine y_gud rfl rfl rfl rfl ?_
      refine y_gud rfl rfl rfl rfl ?_
      refine y_gud rfl rfl rfl rfl ?_
      refine y_gud rfl rfl rfl rfl ?_
      refine y_gud rfl rfl rfl rfl ?_
      refine y_gud rfl rfl rfl rfl ?_
      refine y_gud rfl rfl rfl rfl ?_
      refine y_gud rfl rfl rfl rfl ?_
      refine y_gud rfl rfl rfl rfl ?_
      refine y_gno rfl rfl rfl rfl ?_
      refine y_k (.bool false : Value) w_11 rfl rfl rfl (by kernel_rfl) ?_
      refine y_nil ?_
      refine y_then (hK22 _ _ ?_)
      refine y_cond_f rfl rfl ?_
      refine y_skip ?_
      refine e_block_n ?_
      exact y_then (hjK17 _ least4_8 some5_9 w_11 rfl rfl rfl rfl rfl rfl rfl rfl h)
  · replace h := h.2 (of_decide_eq_false hb74)
    refine y_exit ?_
    repeat (first | refine e_then_x ?_ | refine e_block_y rfl ?_)
    refine e_block_x ?_
    refine y_then (hK9 _ _ ?_)
    refine y_seq fun K40 hK40 => ?_
    refine y_seq fun K41 hK41 => ?_
    refine y_region ?_
    refine y_k (.bool some5_9 : Value) w_11 rfl rfl rfl (by kernel_rfl) ?_
    refine y_k (.bool (!(some5_9)) : Value) w_11 rfl rfl rfl (by kernel_rfl) ?_
    refine y_nil ?_
    refine y_then (hK41 _ _ ?_)
    refine y_cond (!(some5_9)) rfl rfl (fun hb73 => ?_) (fun hb73 => ?_)
    · replace h := h.1 ((not_true_of hb73))
      refine y_ret ?_
      repeat (first | refine e_then_r ?_ | refine e_block_r ?_)
      exact (hQ0 _ _ _ (res0 rfl) ⟨rfl, h⟩).1
    · replace h := h.2 ((not_false_of hb73))
      refine y_skip ?_
      refine y_then (hK40 _ _ ?_)
      refine y_seq fun K42 hK42 => ?_
      refine y_region ?_
      refine y_k (.int .i64 0 : Value) w_11 rfl rfl rfl (by kernel_rfl) ?_
      refine y_nil ?_
      refine y_then (hK42 _ _ ?_)
      refine y_seq fun K43 hK43 => ?_
      refine y_seq fun K44 hK44 => ?_
      refine y_region ?_
      obtain ⟨t53_31, hx45, h⟩ := h
      refine y_v (s := Instr.loadAt 40 (.pointer (some c_2))) rfl rfl rfl (by kernel_rfl) (rn_load (by kernel_rfl) hx45) ?_
      refine y_k (.int .i64 ((t53_31.n : Int)) : Value) w_11 rfl rfl rfl (by kernel_rfl) ?_
      refine y_k (.int .i64 0 : Value) w_11 rfl rfl rfl (by kernel_rfl) ?_
      refine y_nil ?_
      refine y_then (hK44 _ _ ?_)
      refine y_block ?_
      refine y_loop (S := Int × Int) (fun s j => match s with | (many8_32, t55_33) => upd (upd (upd (upd (upd (upd (upd (upd (j) 0 yield0_1) 1 (.pointer (some c_2) : Value)) 3 (.slice t13_4.a t13_4.n t13_4.c : Value)) 4 (.int .u32 least4_8 : Value)) 8 (.int .i64 many8_32 : Value)) 53 (.slice t53_31.a t53_31.n t53_31.c : Value)) 54 (.int .i64 ((t53_31.n : Int)) : Value)) 55 (.int .i64 t55_33 : Value)) (0, 0) ?_ h ?_
      · try dsimp only
        refine upd_id ?_ rfl
        refine upd_id ?_ rfl
        refine upd_id ?_ rfl
        refine upd_id ?_ rfl
        refine upd_id ?_ rfl
        refine upd_id ?_ rfl
        refine upd_id ?_ rfl
        refine upd_id ?_ rfl
        rfl
      rintro KN48 next47 hN48 ⟨many8_32, t55_33⟩ j w_34 h
      unfold F74_l4 at h
      refine y_seq fun K49 hK49 => ?_
      refine y_region ?_
      refine y_k (.bool (decide (t55_33 < ((t53_31.n : Int)))) : Value) w_34 rfl rfl rfl (by kernel_rfl) ?_
      refine y_nil ?_
      refine y_then (hK49 _ _ ?_)
      refine y_seq fun K50 hK50 => ?_
      refine y_cond (decide (t55_33 < ((t53_31.n : Int)))) rfl rfl (fun hb72 => ?_) (fun hb72 => ?_)
      · replace h := h.1 (of_decide_eq_true hb72)
        refine y_skip ?_
        refine y_then (hK50 _ _ ?_)
        refine y_seq fun K51 hK51 => ?_
        have hjK51 : ∀ (f : Fr) (many8_47 : Int) (w_48 : World), f 0 = yield0_1 → f 1 = (.pointer (some c_2) : Value) → f 3 = (.slice t13_4.a t13_4.n t13_4.c : Value) → f 4 = (.int .u32 least4_8 : Value) → f 8 = (.int .i64 many8_47 : Value) → f 53 = (.slice t53_31.a t53_31.n t53_31.c : Value) → f 54 = (.int .i64 ((t53_31.n : Int)) : Value) → f 55 = (.int .i64 t55_33 : Value) → F74_j5 t55_33 next47 many8_47 w_48 → WK K51 92 f w_48 := by
          intro f many8_47 w_48 e0 e1 e3 e4 e8 e53 e54 e55 h
          refine y_atf (upd_id (upd_id (upd_id (upd_id (upd_id (upd_id (upd_id (upd_id rfl e0) e1) e3) e4) e8) e53) e54) e55) ?_
          clear e0 e1 e3 e4 e8 e53 e54 e55
          unfold F74_j5 at h
          refine hK51 _ _ ?_
          refine y_region ?_
          refine y_k (.int .i64 (IntKind.i64.wrap (t55_33 + 1)) : Value) w_48 rfl rfl rfl (by kernel_rfl) ?_
          refine y_k (.int .i64 (IntKind.i64.wrap (t55_33 + 1)) : Value) w_48 rfl rfl rfl (by kernel_rfl) ?_
          refine y_nil ?_
          refine y_then (hN48 (many8_47, IntKind.i64.wrap (t55_33 + 1)) _ _ h ?_)
          try dsimp only
          refine upd_id ?_ rfl
          refine upd_id ?_ rfl
          refine upd_id ?_ rfl
          refine upd_id ?_ rfl
          refine upd_id ?_ rfl
          refine upd_id ?_ rfl
          refine upd_id ?_ rfl
          refine upd_id ?_ rfl
          rfl
        refine y_block ?_
        refine y_seq fun K53 hK53 => ?_
        refine y_region ?_
        refine y_k (.int .i64 t55_33 : Value) w_34 rfl rfl rfl (by kernel_rfl) ?_
        obtain ⟨hx54a, hx54b, a_35, hx54, h⟩ := h
        refine y_v (v := (.pointer (some (a_35.add (Int.toNat t55_33))) : Value)) (s := Instr.indexAt 40 (.slice t53_31.a t53_31.n t53_31.c : Value) (.int .i64 t55_33 : Value)) rfl rfl rfl (by kernel_rfl) (run_ixs1 (el := 22) (by kernel_rfl) (by kernel_rfl) hx54 hx54a hx54b) ?_
        obtain ⟨t59_36, hx55, h⟩ := h
        refine y_v (s := Instr.loadAt 22 (.pointer (some (a_35.add (Int.toNat t55_33))))) rfl rfl rfl (by kernel_rfl) (rn_load (by kernel_rfl) hx55) ?_
        refine y_k (.int .i64 t55_33 : Value) w_34 rfl rfl rfl (by kernel_rfl) ?_
        refine y_k (.slice t59_36.a t59_36.n t59_36.c : Value) w_34 rfl rfl rfl (by kernel_rfl) ?_
        refine y_nil ?_
        refine y_then (hK53 _ _ ?_)
        refine y_seq fun K56 hK56 => ?_
        refine y_region ?_
        refine y_k (.slice t13_4.a t13_4.n t13_4.c : Value) w_34 rfl rfl rfl (by kernel_rfl) ?_
        refine y_k (.int .i64 t55_33 : Value) w_34 rfl rfl rfl (by kernel_rfl) ?_
        obtain ⟨hx57a, hx57b, a_37, hx57, h⟩ := h
        refine y_v (v := (.pointer (some (a_37.add (Int.toNat t55_33))) : Value)) (s := Instr.indexAt 41 (.slice t13_4.a t13_4.n t13_4.c : Value) (.int .i64 t55_33 : Value)) rfl rfl rfl (by kernel_rfl) (run_ixs1 (el := 3) (by kernel_rfl) (by kernel_rfl) hx57 hx57a hx57b) ?_
        obtain ⟨t63_38, hx58, h⟩ := h
        refine y_v (s := Instr.loadAt 3 (.pointer (some (a_37.add (Int.toNat t55_33))))) rfl rfl rfl (by kernel_rfl) (rn_load (by kernel_rfl) hx58) ?_
        refine y_k (.slice t59_36.a t59_36.n t59_36.c : Value) w_34 rfl rfl rfl (by kernel_rfl) ?_
        refine y_k (.int .i64 ((t59_36.n : Int)) : Value) w_34 rfl rfl rfl (by kernel_rfl) ?_
        refine y_k (.bool (decide (t63_38 < ((t59_36.n : Int)))) : Value) w_34 rfl rfl rfl (by kernel_rfl) ?_
        refine y_k (.bool (decide (t63_38 < ((t59_36.n : Int)))) : Value) w_34 rfl rfl rfl (by kernel_rfl) ?_
        refine y_fork (decide (t63_38 < ((t59_36.n : Int)))) (fun hb59 => ?_) (fun hb59 => ?_)
        · replace h := h.1 (of_decide_eq_true hb59)
          refine y_frame (upd_id (i := 67) (v := .bool true) rfl (congrArg Value.bool hb59)) ?_
          refine y_gyes rfl rfl rfl ?_
          refine y_k (.slice t59_36.a t59_36.n t59_36.c : Value) w_34 rfl rfl rfl (by kernel_rfl) ?_
          refine y_gyes rfl rfl rfl ?_
          refine y_k (.slice t13_4.a t13_4.n t13_4.c : Value) w_34 rfl rfl rfl (by kernel_rfl) ?_
          refine y_gyes rfl rfl rfl ?_
          refine y_k (.int .i64 t55_33 : Value) w_34 rfl rfl rfl (by kernel_rfl) ?_
          refine y_gyes rfl rfl rfl ?_
          obtain ⟨hx60a, hx60b, a_39, hx60, h⟩ := h
          refine y_v (v := (.pointer (some (a_39.add (Int.toNat t55_33))) : Value)) (s := Instr.indexAt 41 (.slice t13_4.a t13_4.n t13_4.c : Value) (.int .i64 t55_33 : Value)) rfl rfl rfl (by kernel_rfl) (run_ixs1 (el := 3) (by kernel_rfl) (by kernel_rfl) hx60 hx60a hx60b) ?_
          refine y_gyes rfl rfl rfl ?_
          obtain ⟨t72_40, hx61, h⟩ := h
          refine y_v (s := Instr.loadAt 3 (.pointer (some (a_39.add (Int.toNat t55_33))))) rfl rfl rfl (by kernel_rfl) (rn_load (by kernel_rfl) hx61) ?_
          refine y_gyes rfl rfl rfl ?_
          obtain ⟨hx62a, hx62b, a_41, hx62, h⟩ := h
          refine y_v (v := (.pointer (some (a_41.add (Int.toNat t72_40))) : Value)) (s := Instr.indexAt 22 (.slice t59_36.a t59_36.n t59_36.c : Value) (.int .i64 t72_40 : Value)) rfl rfl rfl (by kernel_rfl) (run_ixs1 (el := 23) (by kernel_rfl) (by kernel_rfl) hx62 hx62a hx62b) ?_
          refine y_gyes rfl rfl rfl ?_
          obtain ⟨t74_42, hx63, h⟩ := h
          refine y_v (s := Instr.loadAt 23 (.pointer (some (a_41.add (Int.toNat t72_40))))) rfl rfl rfl (by kernel_rfl) (rn_load (by kernel_rfl) hx63) ?_
          refine y_gyes rfl rfl rfl ?_
          refine y_k (.int .u32 least4_8 : Value) w_34 rfl rfl rfl (by kernel_rfl) ?_
          refine y_gyes rfl rfl rfl ?_
          refine y_k (.bool ((t74_42 == least4_8)) : Value) w_34 rfl rfl rfl (by kernel_rfl) ?_
          refine y_k (.bool ((t74_42 == least4_8)) : Value) w_34 rfl rfl rfl (by kernel_rfl) ?_
          refine y_nil ?_
          refine y_then (hK56 _ _ ?_)
          refine y_cond ((t74_42 == least4_8)) rfl rfl (fun hb69 => ?_) (fun hb69 => ?_)
          · replace h := h.1 (eq_of_beq hb69)
            refine y_seq fun K64 hK64 => ?_
            refine y_region ?_
            refine y_k (.int .i64 many8_32 : Value) w_34 rfl rfl rfl (by kernel_rfl) ?_
            refine y_k (.int .i64 (IntKind.i64.wrap (many8_32 + 1)) : Value) w_34 rfl rfl rfl (by kernel_rfl) ?_
            refine y_k (.int .i64 (IntKind.i64.wrap (many8_32 + 1)) : Value) w_34 rfl rfl rfl (by kernel_rfl) ?_
            refine y_nil ?_
            refine y_then (hK64 _ _ ?_)
            refine y_region ?_
            refine y_k (.slice t13_4.a t13_4.n t13_4.c : Value) w_34 rfl rfl rfl (by kernel_rfl) ?_
            refine y_k (.int .i64 t55_33 : Value) w_34 rfl rfl rfl (by kernel_rfl) ?_
            obtain ⟨hx65a, hx65b, a_43, hx65, h⟩ := h
            refine y_v (v := (.pointer (some (a_43.add (Int.toNat t55_33))) : Value)) (s := Instr.indexAt 41 (.slice t13_4.a t13_4.n t13_4.c : Value) (.int .i64 t55_33 : Value)) rfl rfl rfl (by kernel_rfl) (run_ixs1 (el := 3) (by kernel_rfl) (by kernel_rfl) hx65 hx65a hx65b) ?_
            obtain ⟨t83_44, hx66, h⟩ := h
            refine y_v (s := Instr.loadAt 3 (.pointer (some (a_43.add (Int.toNat t55_33))))) rfl rfl rfl (by kernel_rfl) (rn_load (by kernel_rfl) hx66) ?_
            refine y_k (.int .i64 (IntKind.i64.wrap (t83_44 + 1)) : Value) w_34 rfl rfl rfl (by kernel_rfl) ?_
            obtain ⟨hx67a, hx67b, a_45, hx67, h⟩ := h
            refine y_v (v := (.pointer (some (a_45.add (Int.toNat t55_33))) : Value)) (s := Instr.indexAt 41 (.slice t13_4.a t13_4.n t13_4.c : Value) (.int .i64 t55_33 : Value)) rfl rfl rfl (by kernel_rfl) (run_ixs1 (el := 3) (by kernel_rfl) (by kernel_rfl) hx67 hx67a hx67b) ?_
            obtain ⟨hx68, h⟩ := h
            replace h := h _ rfl
            refine y_u (s := Instr.storeAt 3 (.pointer (some (a_45.add (Int.toNat t55_33)))) (.int .i64 (IntKind.i64.wrap (t83_44 + 1)) : Value)) rfl rfl (by kernel_rfl) (rn_store1 (by kernel_rfl) rfl hx68) ?_
            generalize w_34.setCell (a_45.add (Int.toNat t55_33)) (.int .i64 (IntKind.i64.wrap (t83_44 + 1)) : Value) = w_46 at h ⊢
            refine y_nil ?_
            refine e_block_n ?_
            exact y_then (hjK51 _ (IntKind.i64.wrap (many8_32 + 1)) w_46 rfl rfl rfl rfl rfl rfl rfl rfl h)
          · replace h := h.2 (beq_eq_false_iff_ne.mp hb69)
            refine y_skip ?_
            refine e_block_n ?_
            exact y_then (hjK51 _ many8_32 w_34 rfl rfl rfl rfl rfl rfl rfl rfl h)
        · replace h := h.2 (of_decide_eq_false hb59)
          refine y_frame (upd_id (i := 67) (v := .bool false) rfl (congrArg Value.bool hb59)) ?_
          refine y_gno rfl rfl rfl rfl ?_
          refine y_gno rfl rfl rfl rfl ?_
          refine y_gno rfl rfl rfl rfl ?_
          refine y_gno rfl rfl rfl rfl ?_
          refine y_gno rfl rfl rfl rfl ?_
          refine y_gno rfl rfl rfl rfl ?_
          refine y_gno rfl rfl rfl rfl ?_
          refine y_gno rfl rfl rfl rfl ?_
          refine y_gno rfl rfl rfl rfl ?_
          refine y_k (.bool false : Value) w_34 rfl rfl rfl (by kernel_rfl) ?_
          refine y_nil ?_
          refine y_then (hK56 _ _ ?_)
          refine y_cond_f rfl rfl ?_
          refine y_skip ?_
          refine e_block_n ?_
          exact y_then (hjK51 _ many8_32 w_34 rfl rfl rfl rfl rfl rfl rfl rfl h)
      · replace h := h.2 (of_decide_eq_false hb72)
        refine y_exit ?_
        repeat (first | refine e_then_x ?_ | refine e_block_y rfl ?_)
        refine e_block_x ?_
        refine y_then (hK43 _ _ ?_)
        refine y_seq fun K70 hK70 => ?_
        refine y_regionI ?_
        refine i_k af_wide yield0_1 w_34 rfl rfl rfl (fun _ h => nomatch h) (by kernel_rfl) ?_
        refine i_k af_wide (.int .u32 least4_8 : Value) w_34 rfl rfl rfl (fun _ h => nomatch h) (by kernel_rfl) ?_
        refine i_k af_wide (.int .i64 many8_32 : Value) w_34 rfl rfl rfl (fun _ h => nomatch h) (by kernel_rfl) ?_
        refine i_yield rfl rfl rfl (fun _ h => nomatch h) (fun l e => by subst e; kernel_rfl) (h.mono ?_)
        intro y_49 w_50 h
        refine i_k af_wide (.bool (!(y_49)) : Value) w_50 rfl rfl rfl (fun _ h => nomatch h) (by kernel_rfl) ?_
        refine i_wnil ?_
        refine y_then (hK70 _ _ ?_)
        refine y_cond (!(y_49)) rfl rfl (fun hb71 => ?_) (fun hb71 => ?_)
        · replace h := h.1 ((not_true_of hb71))
          refine y_ret ?_
          repeat (first | refine e_then_r ?_ | refine e_block_r ?_)
          exact (hQ0 _ _ _ (res0 rfl) ⟨rfl, h⟩).1
        · replace h := h.2 ((not_false_of hb71))
          refine y_skip ?_
          refine e_block_n ?_
          refine y_then (hN6 () _ _ h ?_)
          try dsimp only
          refine upd_id ?_ rfl
          refine upd_id ?_ rfl
          refine upd_id ?_ rfl
          rfl

end Go.Proofs.Ytjgijifankaglaa
