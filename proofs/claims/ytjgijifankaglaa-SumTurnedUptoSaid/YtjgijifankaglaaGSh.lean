/- Printed by gen.py (own program, wip/): for each Go function a predicate transformer and its soundness. -/
import Derived.Test.YtjgijifankaglaaProg
import Derived.Test.YtjgijifankaglaaST
namespace Go.Proofs.Ytjgijifankaglaa
open Go Go.RowKit Go.Proofs.Ytjgijifankaglaa.SX
set_option linter.unusedVariables false

def F10_j3 (i10_11 : Int) (next19 : (Int) → World → Prop) (w_18 : World) : Prop :=
  next19 (IntKind.i64.wrap (i10_11 + 1)) w_18
def F10_j4 (K : Bool → World → Prop) (t6_35 : Bool) (w_36 : World) : Prop :=
  K t6_35 w_36
def F10_l2 (b0_1 : Sl) (bits2_3 : Int) (K : Bool → World → Prop) (at1_6 : Int) (t38_9 : Sl) (next19 : (Int) → World → Prop) : (Int) → World → Prop := fun (i10_11) w_12 =>
  ((i10_11 < 32 →
  (0 : Int) ≤ i10_11 ∧
  ((((ibits .and .u32 (ishr .u32 bits2_3 i10_11) 1)) = 1 →
  ∀ (w_13 : World), w_13 = w_12.drew →
  (0 : Int) ≤ (IntKind.i64.wrap (Int.tdiv (IntKind.i64.wrap ((Int.tmod at1_6 (IntKind.i64.wrap ((IntKind.i64.wrap (8 * ((b0_1.n : Int)))) - 31))) + i10_11)) 8)) ∧ (IntKind.i64.wrap (Int.tdiv (IntKind.i64.wrap ((Int.tmod at1_6 (IntKind.i64.wrap ((IntKind.i64.wrap (8 * ((b0_1.n : Int)))) - 31))) + i10_11)) 8)) < (t38_9.n : Int) ∧ ∃ (a_14 : Addr), t38_9.a = some a_14 ∧
  ∃ (t59_15 : Int), w_13.cell? (a_14.add (Int.toNat (IntKind.i64.wrap (Int.tdiv (IntKind.i64.wrap ((Int.tmod at1_6 (IntKind.i64.wrap ((IntKind.i64.wrap (8 * ((b0_1.n : Int)))) - 31))) + i10_11)) 8)))) = some (.int .u8 t59_15) ∧
  (0 : Int) ≤ (Int.tmod (IntKind.i64.wrap ((Int.tmod at1_6 (IntKind.i64.wrap ((IntKind.i64.wrap (8 * ((b0_1.n : Int)))) - 31))) + i10_11)) 8) ∧
  (0 : Int) ≤ (IntKind.i64.wrap (Int.tdiv (IntKind.i64.wrap ((Int.tmod at1_6 (IntKind.i64.wrap ((IntKind.i64.wrap (8 * ((b0_1.n : Int)))) - 31))) + i10_11)) 8)) ∧ (IntKind.i64.wrap (Int.tdiv (IntKind.i64.wrap ((Int.tmod at1_6 (IntKind.i64.wrap ((IntKind.i64.wrap (8 * ((b0_1.n : Int)))) - 31))) + i10_11)) 8)) < (t38_9.n : Int) ∧ ∃ (a_16 : Addr), t38_9.a = some a_16 ∧
  HasCell w_13 (a_16.add (Int.toNat (IntKind.i64.wrap (Int.tdiv (IntKind.i64.wrap ((Int.tmod at1_6 (IntKind.i64.wrap ((IntKind.i64.wrap (8 * ((b0_1.n : Int)))) - 31))) + i10_11)) 8)))) ∧ ∀ (w_17 : World), w_17 = w_13.setCell (a_16.add (Int.toNat (IntKind.i64.wrap (Int.tdiv (IntKind.i64.wrap ((Int.tmod at1_6 (IntKind.i64.wrap ((IntKind.i64.wrap (8 * ((b0_1.n : Int)))) - 31))) + i10_11)) 8)))) (.int .u8 (ibits .xor .u8 t59_15 (ishl .u8 1 (Int.tmod (IntKind.i64.wrap ((Int.tmod at1_6 (IntKind.i64.wrap ((IntKind.i64.wrap (8 * ((b0_1.n : Int)))) - 31))) + i10_11)) 8))) : Value) → 
  F10_j3 i10_11 next19 w_17) ∧
  (¬ ((ibits .and .u32 (ishr .u32 bits2_3 i10_11) 1)) = 1 →
  F10_j3 i10_11 next19 w_12))) ∧
  (¬ (i10_11 < 32) →
  ∀ (w_19 : World), w_19 = w_12.alloc (.cells #[] 5) →
  ∃ (t69_20 : Sl), ∃ (w_21 : World), (Builtin.append_ #[33, 33] 33 #[.slice (some ⟨w_12.heap.size, 0, none⟩) 0 0, .slice b0_1.a b0_1.n b0_1.c]).run Try.prog w_19 = .ok (.slice t69_20.a t69_20.n t69_20.c : Value) w_21 ∧
  Calls Try.prog 40 #[.slice t38_9.a t38_9.n t38_9.c] w_21 fun e w_23 => ∃ (t71_22 : Int), e = .returned (.int .u32 t71_22 : Value) ∧
  Calls Try.prog 40 #[.slice b0_1.a b0_1.n b0_1.c] w_23 fun e w_25 => ∃ (t73_24 : Int), e = .returned (.int .u32 t73_24 : Value) ∧
  ((¬ t71_22 = t73_24 →
  Calls Try.prog 40 #[.slice t69_20.a t69_20.n t69_20.c] w_25 fun e w_27 => ∃ (t77_26 : Int), e = .returned (.int .u32 t77_26 : Value) ∧
  Calls Try.prog 40 #[.slice b0_1.a b0_1.n b0_1.c] w_27 fun e w_29 => ∃ (t79_28 : Int), e = .returned (.int .u32 t79_28 : Value) ∧
  ((t77_26 = t79_28 →
  Calls Try.prog 41 #[.slice t69_20.a t69_20.n t69_20.c] w_29 fun e w_31 => ∃ (t84_30 : Value), e = .returned t84_30 ∧
  Calls Try.prog 41 #[.slice b0_1.a b0_1.n b0_1.c] w_31 fun e w_33 => ∃ (t86_32 : Value), e = .returned t86_32 ∧
  ∃ (t87_34 : Bool), (do eqGuard .eql 50 (Operand.tmp 84) (Operand.tmp 86) t84_30 t86_32; binOp .eql 50 t84_30 t86_32).run Try.prog w_33 = .ok (.bool t87_34 : Value) w_33 ∧
  F10_j4 K t87_34 w_33) ∧
  (¬ t77_26 = t79_28 →
  F10_j4 K false w_29))) ∧
  (t71_22 = t73_24 →
  F10_j4 K false w_25))))
def F10_j1 (b0_1 : Sl) (bits2_3 : Int) (K : Bool → World → Prop) (at1_6 : Int) (w_7 : World) : Prop :=
  (IntKind.i64.wrap ((IntKind.i64.wrap (8 * ((b0_1.n : Int)))) - 31)) ≠ 0 ∧
  ∀ (w_8 : World), w_8 = w_7.alloc (.cells #[] 5) →
  ∃ (t38_9 : Sl), ∃ (w_10 : World), (Builtin.append_ #[33, 33] 33 #[.slice (some ⟨w_7.heap.size, 0, none⟩) 0 0, .slice b0_1.a b0_1.n b0_1.c]).run Try.prog w_8 = .ok (.slice t38_9.a t38_9.n t38_9.c : Value) w_10 ∧
  kLoop (F10_l2 b0_1 bits2_3 K at1_6 t38_9) (0) w_10
/-- turnkey/turnkeylaw02.SumTurned -/
def F10 (b0_1 : Sl) (at1_2 : Int) (bits2_3 : Int) (K : Bool → World → Prop) (w : World) : Prop :=
  Calls Try.prog 38 #[] w fun e w_5 => ∃ (t12_4 : Bool), e = .returned (.bool t12_4 : Value) ∧
  ((t12_4 = false →
  K t12_4 w_5) ∧
  (t12_4 = true →
  ((((b0_1.n : Int)) < 5 →
  K t12_4 w_5) ∧
  (¬ (((b0_1.n : Int)) < 5) →
  ((bits2_3 = 0 →
  K t12_4 w_5) ∧
  (¬ bits2_3 = 0 →
  ((at1_2 < 0 →
  F10_j1 b0_1 bits2_3 K (IntKind.i64.wrap (0 - (IntKind.i64.wrap (at1_2 + 1)))) w_5) ∧
  (¬ (at1_2 < 0) →
  F10_j1 b0_1 bits2_3 K at1_2 w_5))))))))
set_option maxHeartbeats 4000000 in
set_option maxRecDepth 20000 in
theorem F10_sound (b0_1 : Sl) (at1_2 : Int) (bits2_3 : Int) (K : Bool → World → Prop) (w : World) (h : F10 b0_1 at1_2 bits2_3 K w) :
    Calls Try.prog 10 #[.slice b0_1.a b0_1.n b0_1.c, .int .i64 at1_2, .int .u32 bits2_3] w (fun e w1 => ∃ (r0 : Bool), e = .returned (.bool r0 : Value) ∧ K r0 w1) := by
  unfold F10 at h
  refine y_enter (n := 89) (args := [.slice b0_1.a b0_1.n b0_1.c, .int .i64 at1_2, .int .u32 bits2_3]) Try.func10 rfl rfl rfl fun Q0 hQ0 => ?_
  refine y_seq fun K1 hK1 => ?_
  refine y_region ?_
  refine y_k (.bool false : Value) w rfl rfl rfl (by kernel_rfl) ?_
  refine y_nil ?_
  refine y_then (hK1 _ _ ?_)
  refine y_seq fun K2 hK2 => ?_
  refine y_region ?_
  refine y_call rfl rfl rfl (by kernel_rfl) (h.mono ?_)
  rintro _ w_5 ⟨t12_4, rfl, h⟩
  refine ⟨_, rfl, ?_⟩
  refine y_k (.bool t12_4 : Value) w_5 rfl rfl rfl (by kernel_rfl) ?_
  refine y_nil ?_
  refine y_then (hK2 _ _ ?_)
  refine y_seq fun K3 hK3 => ?_
  refine y_seq fun K4 hK4 => ?_
  refine y_region ?_
  refine y_k (.bool t12_4 : Value) w_5 rfl rfl rfl (by kernel_rfl) ?_
  refine y_k (.bool (!(t12_4)) : Value) w_5 rfl rfl rfl (by kernel_rfl) ?_
  refine y_k (.bool (!(t12_4)) : Value) w_5 rfl rfl rfl (by kernel_rfl) ?_
  refine y_fork (!(t12_4)) (fun hb5 => ?_) (fun hb5 => ?_)
  · replace h := h.1 ((not_true_of hb5))
    refine y_frame (upd_id (i := 15) (v := .bool true) rfl (congrArg Value.bool hb5)) ?_
    refine y_gno rfl rfl rfl rfl ?_
    refine y_gno rfl rfl rfl rfl ?_
    refine y_gno rfl rfl rfl rfl ?_
    refine y_k (.bool true : Value) w_5 rfl rfl rfl (by kernel_rfl) ?_
    refine y_k (.bool true : Value) w_5 rfl rfl rfl (by kernel_rfl) ?_
    refine y_gno rfl rfl rfl rfl ?_
    refine y_gno rfl rfl rfl rfl ?_
    refine y_k (.bool true : Value) w_5 rfl rfl rfl (by kernel_rfl) ?_
    refine y_nil ?_
    refine y_then (hK4 _ _ ?_)
    refine y_cond_t rfl rfl ?_
    refine y_seq fun K6 hK6 => ?_
    refine y_region ?_
    refine y_k (.bool t12_4 : Value) w_5 rfl rfl rfl (by kernel_rfl) ?_
    refine y_k (.bool t12_4 : Value) w_5 rfl rfl rfl (by kernel_rfl) ?_
    refine y_nil ?_
    refine y_then (hK6 _ _ ?_)
    refine y_ret ?_
    repeat (first | refine e_then_r ?_ | refine e_block_r ?_)
    exact (hQ0 _ _ _ (res1 (v := (.bool t12_4 : Value)) rfl rfl rfl) ⟨_, rfl, h⟩).1
  · replace h := h.2 ((not_false_of hb5))
    refine y_frame (upd_id (i := 15) (v := .bool false) rfl (congrArg Value.bool hb5)) ?_
    refine y_gyes rfl rfl rfl ?_
    refine y_k (.slice b0_1.a b0_1.n b0_1.c : Value) w_5 rfl rfl rfl (by kernel_rfl) ?_
    refine y_gyes rfl rfl rfl ?_
    refine y_k (.int .i64 ((b0_1.n : Int)) : Value) w_5 rfl rfl rfl (by kernel_rfl) ?_
    refine y_gyes rfl rfl rfl ?_
    refine y_k (.bool (decide (((b0_1.n : Int)) < 5)) : Value) w_5 rfl rfl rfl (by kernel_rfl) ?_
    refine y_k (.bool (decide (((b0_1.n : Int)) < 5)) : Value) w_5 rfl rfl rfl (by kernel_rfl) ?_
    refine y_k (.bool (decide (((b0_1.n : Int)) < 5)) : Value) w_5 rfl rfl rfl (by kernel_rfl) ?_
    refine y_fork (decide (((b0_1.n : Int)) < 5)) (fun hb7 => ?_) (fun hb7 => ?_)
    · replace h := h.1 (of_decide_eq_true hb7)
      refine y_frame (upd_id (i := 20) (v := .bool true) rfl (congrArg Value.bool hb7)) ?_
      refine y_gno rfl rfl rfl rfl ?_
      refine y_gno rfl rfl rfl rfl ?_
      refine y_k (.bool true : Value) w_5 rfl rfl rfl (by kernel_rfl) ?_
      refine y_nil ?_
      refine y_then (hK4 _ _ ?_)
      refine y_cond_t rfl rfl ?_
      refine y_seq fun K8 hK8 => ?_
      refine y_region ?_
      refine y_k (.bool t12_4 : Value) w_5 rfl rfl rfl (by kernel_rfl) ?_
      refine y_k (.bool t12_4 : Value) w_5 rfl rfl rfl (by kernel_rfl) ?_
      refine y_nil ?_
      refine y_then (hK8 _ _ ?_)
      refine y_ret ?_
      repeat (first | refine e_then_r ?_ | refine e_block_r ?_)
      exact (hQ0 _ _ _ (res1 (v := (.bool t12_4 : Value)) rfl rfl rfl) ⟨_, rfl, h⟩).1
    · replace h := h.2 (of_decide_eq_false hb7)
      refine y_frame (upd_id (i := 20) (v := .bool false) rfl (congrArg Value.bool hb7)) ?_
      refine y_gyes rfl rfl rfl ?_
      refine y_k (.int .u32 bits2_3 : Value) w_5 rfl rfl rfl (by kernel_rfl) ?_
      refine y_gyes rfl rfl rfl ?_
      refine y_k (.bool ((bits2_3 == 0)) : Value) w_5 rfl rfl rfl (by kernel_rfl) ?_
      refine y_k (.bool ((bits2_3 == 0)) : Value) w_5 rfl rfl rfl (by kernel_rfl) ?_
      refine y_nil ?_
      refine y_then (hK4 _ _ ?_)
      refine y_cond ((bits2_3 == 0)) rfl rfl (fun hb42 => ?_) (fun hb42 => ?_)
      · replace h := h.1 (eq_of_beq hb42)
        refine y_seq fun K9 hK9 => ?_
        refine y_region ?_
        refine y_k (.bool t12_4 : Value) w_5 rfl rfl rfl (by kernel_rfl) ?_
        refine y_k (.bool t12_4 : Value) w_5 rfl rfl rfl (by kernel_rfl) ?_
        refine y_nil ?_
        refine y_then (hK9 _ _ ?_)
        refine y_ret ?_
        repeat (first | refine e_then_r ?_ | refine e_block_r ?_)
        exact (hQ0 _ _ _ (res1 (v := (.bool t12_4 : Value)) rfl rfl rfl) ⟨_, rfl, h⟩).1
      · replace h := h.2 (beq_eq_false_iff_ne.mp hb42)
        refine y_skip ?_
        refine y_then (hK3 _ _ ?_)
        refine y_seq fun K10 hK10 => ?_
        have hjK10 : ∀ (f : Fr) (at1_6 : Int) (w_7 : World), f 0 = (.slice b0_1.a b0_1.n b0_1.c : Value) → f 1 = (.int .i64 at1_6 : Value) → f 2 = (.int .u32 bits2_3 : Value) → F10_j1 b0_1 bits2_3 K at1_6 w_7 → WK K10 89 f w_7 := by
          intro f at1_6 w_7 e0 e1 e2 h
          refine y_atf (upd_id (upd_id (upd_id rfl e0) e1) e2) ?_
          clear e0 e1 e2
          unfold F10_j1 at h
          refine hK10 _ _ ?_
          refine y_seq fun K12 hK12 => ?_
          refine y_region ?_
          refine y_k (.int .i64 at1_6 : Value) w_7 rfl rfl rfl (by kernel_rfl) ?_
          refine y_k (.slice b0_1.a b0_1.n b0_1.c : Value) w_7 rfl rfl rfl (by kernel_rfl) ?_
          refine y_k (.int .i64 ((b0_1.n : Int)) : Value) w_7 rfl rfl rfl (by kernel_rfl) ?_
          refine y_k (.int .i64 (IntKind.i64.wrap (8 * ((b0_1.n : Int)))) : Value) w_7 rfl rfl rfl (by kernel_rfl) ?_
          refine y_k (.int .i64 (IntKind.i64.wrap ((IntKind.i64.wrap (8 * ((b0_1.n : Int)))) - 31)) : Value) w_7 rfl rfl rfl (by kernel_rfl) ?_
          obtain ⟨hx13, h⟩ := h
          refine y_k (.int .i64 (Int.tmod at1_6 (IntKind.i64.wrap ((IntKind.i64.wrap (8 * ((b0_1.n : Int)))) - 31))) : Value) w_7 rfl rfl rfl (run_rem hx13 rfl rfl) ?_
          refine y_k (.int .i64 (Int.tmod at1_6 (IntKind.i64.wrap ((IntKind.i64.wrap (8 * ((b0_1.n : Int)))) - 31))) : Value) w_7 rfl rfl rfl (by kernel_rfl) ?_
          refine y_nil ?_
          refine y_then (hK12 _ _ ?_)
          refine y_seq fun K14 hK14 => ?_
          refine y_region ?_
          refine y_k (.slice (some ⟨w_7.heap.size, 0, none⟩) 0 0 : Value) (w_7.alloc (.cells #[] 5)) rfl rfl rfl (by kernel_rfl) ?_
          replace h := h _ rfl
          generalize w_7.alloc (.cells #[] 5) = w_8 at h ⊢
          refine y_k (.slice b0_1.a b0_1.n b0_1.c : Value) w_8 rfl rfl rfl (by kernel_rfl) ?_
          obtain ⟨t38_9, w_10, hx15, h⟩ := h
          refine y_v (s := Builtin.append_ #[33, 33] 33 #[.slice (some ⟨w_7.heap.size, 0, none⟩) 0 0, .slice b0_1.a b0_1.n b0_1.c]) rfl rfl rfl (by kernel_rfl) hx15 ?_
          refine y_k (.slice t38_9.a t38_9.n t38_9.c : Value) w_10 rfl rfl rfl (by kernel_rfl) ?_
          refine y_nil ?_
          refine y_then (hK14 _ _ ?_)
          refine y_seq fun K16 hK16 => ?_
          refine y_seq fun K17 hK17 => ?_
          refine y_region ?_
          refine y_k (.int .i64 0 : Value) w_10 rfl rfl rfl (by kernel_rfl) ?_
          refine y_nil ?_
          refine y_then (hK17 _ _ ?_)
          refine y_block ?_
          refine y_loop (S := Int) (fun s j => match s with | (i10_11) => upd (upd (upd (upd (upd (j) 0 (.slice b0_1.a b0_1.n b0_1.c : Value)) 2 (.int .u32 bits2_3 : Value)) 8 (.int .i64 (Int.tmod at1_6 (IntKind.i64.wrap ((IntKind.i64.wrap (8 * ((b0_1.n : Int)))) - 31))) : Value)) 9 (.slice t38_9.a t38_9.n t38_9.c : Value)) 10 (.int .i64 i10_11 : Value)) (0) ?_ h ?_
          · dsimp only
            refine upd_id ?_ rfl
            refine upd_id ?_ rfl
            refine upd_id ?_ rfl
            refine upd_id ?_ rfl
            refine upd_id ?_ rfl
            rfl
          rintro KN20 next19 hN20 i10_11 j w_12 h
          unfold F10_l2 at h
          refine y_seq fun K21 hK21 => ?_
          refine y_seq fun K22 hK22 => ?_
          refine y_region ?_
          refine y_k (.int .i64 i10_11 : Value) w_12 rfl rfl rfl (by kernel_rfl) ?_
          refine y_k (.bool (decide (i10_11 < 32)) : Value) w_12 rfl rfl rfl (by kernel_rfl) ?_
          refine y_nil ?_
          refine y_then (hK22 _ _ ?_)
          refine y_cond (decide (i10_11 < 32)) rfl rfl (fun hb40 => ?_) (fun hb40 => ?_)
          · replace h := h.1 (of_decide_eq_true hb40)
            refine y_skip ?_
            refine y_then (hK21 _ _ ?_)
            refine y_seq fun K23 hK23 => ?_
            have hjK23 : ∀ (f : Fr) (w_18 : World), f 0 = (.slice b0_1.a b0_1.n b0_1.c : Value) → f 2 = (.int .u32 bits2_3 : Value) → f 8 = (.int .i64 (Int.tmod at1_6 (IntKind.i64.wrap ((IntKind.i64.wrap (8 * ((b0_1.n : Int)))) - 31))) : Value) → f 9 = (.slice t38_9.a t38_9.n t38_9.c : Value) → f 10 = (.int .i64 i10_11 : Value) → F10_j3 i10_11 next19 w_18 → WK K23 89 f w_18 := by
              intro f  w_18 e0 e2 e8 e9 e10 h
              refine y_atf (upd_id (upd_id (upd_id (upd_id (upd_id rfl e0) e2) e8) e9) e10) ?_
              clear e0 e2 e8 e9 e10
              unfold F10_j3 at h
              refine hK23 _ _ ?_
              refine y_region ?_
              refine y_k (.int .i64 i10_11 : Value) w_18 rfl rfl rfl (by kernel_rfl) ?_
              refine y_k (.int .i64 (IntKind.i64.wrap (i10_11 + 1)) : Value) w_18 rfl rfl rfl (by kernel_rfl) ?_
              refine y_k (.int .i64 (IntKind.i64.wrap (i10_11 + 1)) : Value) w_18 rfl rfl rfl (by kernel_rfl) ?_
              refine y_nil ?_
              refine y_then (hN20 (IntKind.i64.wrap (i10_11 + 1)) _ _ h ?_)
              dsimp only
              refine upd_id ?_ rfl
              refine upd_id ?_ rfl
              refine upd_id ?_ rfl
              refine upd_id ?_ rfl
              refine upd_id ?_ rfl
              rfl
            refine y_block ?_
            refine y_seq fun K25 hK25 => ?_
            refine y_region ?_
            refine y_k (.int .u32 bits2_3 : Value) w_12 rfl rfl rfl (by kernel_rfl) ?_
            refine y_k (.int .i64 i10_11 : Value) w_12 rfl rfl rfl (by kernel_rfl) ?_
            obtain ⟨hx26, h⟩ := h
            refine y_k (.int .u32 (ishr .u32 bits2_3 i10_11) : Value) w_12 rfl rfl rfl (run_shr hx26 rfl rfl) ?_
            refine y_k (.int .u32 (ibits .and .u32 (ishr .u32 bits2_3 i10_11) 1) : Value) w_12 rfl rfl rfl (by kernel_rfl) ?_
            refine y_k (.bool ((((ibits .and .u32 (ishr .u32 bits2_3 i10_11) 1)) == 1)) : Value) w_12 rfl rfl rfl (by kernel_rfl) ?_
            refine y_nil ?_
            refine y_then (hK25 _ _ ?_)
            refine y_cond ((((ibits .and .u32 (ishr .u32 bits2_3 i10_11) 1)) == 1)) rfl rfl (fun hb33 => ?_) (fun hb33 => ?_)
            · replace h := h.1 (eq_of_beq hb33)
              obtain ⟨w_13, hwd27⟩ : ∃ wd : World, wd = w_12.drew := ⟨_, rfl⟩
              replace h := h _ hwd27
              refine t_region (wd := w_13) [] (by kernel_rfl) hwd27 SF_nil fun Q27 hE27 hp27 hS => ?_
              clear hwd27
              refine t_kw hp27 hS 0 (.slice t38_9.a t38_9.n t38_9.c : Value) rfl (wanted_none rfl) rfl rfl (by kernel_rfl) (fun _ _ => by kernel_rfl) fun hS => ?_
              refine t_kw hp27 hS 1 (.int .i64 (Int.tmod at1_6 (IntKind.i64.wrap ((IntKind.i64.wrap (8 * ((b0_1.n : Int)))) - 31))) : Value) rfl (wanted_none rfl) rfl rfl (by kernel_rfl) (fun _ _ => by kernel_rfl) fun hS => ?_
              refine t_kw hp27 hS 2 (.int .i64 i10_11 : Value) rfl (wanted_none rfl) rfl rfl (by kernel_rfl) (fun _ _ => by kernel_rfl) fun hS => ?_
              refine t_kw hp27 hS 3 (.int .i64 (IntKind.i64.wrap ((Int.tmod at1_6 (IntKind.i64.wrap ((IntKind.i64.wrap (8 * ((b0_1.n : Int)))) - 31))) + i10_11)) : Value) rfl (wanted_none rfl) rfl rfl (by kernel_rfl) (fun _ _ => by kernel_rfl) fun hS => ?_
              refine t_kw hp27 hS 4 (.int .i64 (IntKind.i64.wrap (Int.tdiv (IntKind.i64.wrap ((Int.tmod at1_6 (IntKind.i64.wrap ((IntKind.i64.wrap (8 * ((b0_1.n : Int)))) - 31))) + i10_11)) 8)) : Value) rfl (wanted_none rfl) rfl rfl (by kernel_rfl) (fun _ _ => by kernel_rfl) fun hS => ?_
              refine t_kw hp27 hS 5 (.slice t38_9.a t38_9.n t38_9.c : Value) rfl (wanted_none rfl) rfl rfl (by kernel_rfl) (fun _ _ => by kernel_rfl) fun hS => ?_
              refine t_kw hp27 hS 6 (.int .i64 (Int.tmod at1_6 (IntKind.i64.wrap ((IntKind.i64.wrap (8 * ((b0_1.n : Int)))) - 31))) : Value) rfl (wanted_none rfl) rfl rfl (by kernel_rfl) (fun _ _ => by kernel_rfl) fun hS => ?_
              refine t_kw hp27 hS 7 (.int .i64 i10_11 : Value) rfl (wanted_none rfl) rfl rfl (by kernel_rfl) (fun _ _ => by kernel_rfl) fun hS => ?_
              refine t_kw hp27 hS 8 (.int .i64 (IntKind.i64.wrap ((Int.tmod at1_6 (IntKind.i64.wrap ((IntKind.i64.wrap (8 * ((b0_1.n : Int)))) - 31))) + i10_11)) : Value) rfl (wanted_none rfl) rfl rfl (by kernel_rfl) (fun _ _ => by kernel_rfl) fun hS => ?_
              refine t_kw hp27 hS 9 (.int .i64 (IntKind.i64.wrap (Int.tdiv (IntKind.i64.wrap ((Int.tmod at1_6 (IntKind.i64.wrap ((IntKind.i64.wrap (8 * ((b0_1.n : Int)))) - 31))) + i10_11)) 8)) : Value) rfl (wanted_none rfl) rfl rfl (by kernel_rfl) (fun _ _ => by kernel_rfl) fun hS => ?_
              obtain ⟨hx28a, hx28b, a_14, hx28, h⟩ := h
              refine t_v (s := Instr.indexAt 33 (.slice t38_9.a t38_9.n t38_9.c : Value) (.int .i64 (IntKind.i64.wrap (Int.tdiv (IntKind.i64.wrap ((Int.tmod at1_6 (IntKind.i64.wrap ((IntKind.i64.wrap (8 * ((b0_1.n : Int)))) - 31))) + i10_11)) 8)) : Value)) hp27 hS 10 (.pointer (some (a_14.add (Int.toNat (IntKind.i64.wrap (Int.tdiv (IntKind.i64.wrap ((Int.tmod at1_6 (IntKind.i64.wrap ((IntKind.i64.wrap (8 * ((b0_1.n : Int)))) - 31))) + i10_11)) 8))))) : Value) rfl (wanted_none rfl) rfl rfl (by kernel_rfl) (by kernel_rfl) (fun _ _ => run_ixs1 (el := 5) (by kernel_rfl) (by kernel_rfl) hx28 hx28a hx28b) fun hS => ?_
              obtain ⟨t59_15, hx29, h⟩ := h
              refine t_add ⟨11, [19], fun wx => wx.cell? (a_14.add (Int.toNat (IntKind.i64.wrap (Int.tdiv (IntKind.i64.wrap ((Int.tmod at1_6 (IntKind.i64.wrap ((IntKind.i64.wrap (8 * ((b0_1.n : Int)))) - 31))) + i10_11)) 8)))) = some (.int .u8 t59_15)⟩ ?_
              replace hS := SF_on (x := ⟨11, [19], fun wx => wx.cell? (a_14.add (Int.toNat (IntKind.i64.wrap (Int.tdiv (IntKind.i64.wrap ((Int.tmod at1_6 (IntKind.i64.wrap ((IntKind.i64.wrap (8 * ((b0_1.n : Int)))) - 31))) + i10_11)) 8)))) = some (.int .u8 t59_15)⟩) hx29 hS
              refine t_v (s := Instr.loadAt 5 (.pointer (some (a_14.add (Int.toNat (IntKind.i64.wrap (Int.tdiv (IntKind.i64.wrap ((Int.tmod at1_6 (IntKind.i64.wrap ((IntKind.i64.wrap (8 * ((b0_1.n : Int)))) - 31))) + i10_11)) 8))))))) hp27 hS 11 (.int .u8 t59_15 : Value) rfl (wanted_none rfl) rfl rfl (by kernel_rfl) (by kernel_rfl) (fun _ hw => rn_load (by kernel_rfl) (Sw.fact (List.Mem.head _) rfl hw)) fun hS => ?_
              refine t_kw hp27 hS 12 (.int .i64 (Int.tmod at1_6 (IntKind.i64.wrap ((IntKind.i64.wrap (8 * ((b0_1.n : Int)))) - 31))) : Value) rfl (wanted_none rfl) rfl rfl (by kernel_rfl) (fun _ _ => by kernel_rfl) fun hS => ?_
              refine t_kw hp27 hS 13 (.int .i64 i10_11 : Value) rfl (wanted_none rfl) rfl rfl (by kernel_rfl) (fun _ _ => by kernel_rfl) fun hS => ?_
              refine t_kw hp27 hS 14 (.int .i64 (IntKind.i64.wrap ((Int.tmod at1_6 (IntKind.i64.wrap ((IntKind.i64.wrap (8 * ((b0_1.n : Int)))) - 31))) + i10_11)) : Value) rfl (wanted_none rfl) rfl rfl (by kernel_rfl) (fun _ _ => by kernel_rfl) fun hS => ?_
              refine t_kw hp27 hS 15 (.int .i64 (Int.tmod (IntKind.i64.wrap ((Int.tmod at1_6 (IntKind.i64.wrap ((IntKind.i64.wrap (8 * ((b0_1.n : Int)))) - 31))) + i10_11)) 8) : Value) rfl (wanted_none rfl) rfl rfl (by kernel_rfl) (fun _ _ => by kernel_rfl) fun hS => ?_
              obtain ⟨hx30, h⟩ := h
              refine t_kw hp27 hS 16 (.int .u8 (ishl .u8 1 (Int.tmod (IntKind.i64.wrap ((Int.tmod at1_6 (IntKind.i64.wrap ((IntKind.i64.wrap (8 * ((b0_1.n : Int)))) - 31))) + i10_11)) 8)) : Value) rfl (wanted_none rfl) rfl rfl (by kernel_rfl) (fun _ _ => run_shl hx30 rfl rfl) fun hS => ?_
              refine t_kw hp27 hS 17 (.int .u8 (ibits .xor .u8 t59_15 (ishl .u8 1 (Int.tmod (IntKind.i64.wrap ((Int.tmod at1_6 (IntKind.i64.wrap ((IntKind.i64.wrap (8 * ((b0_1.n : Int)))) - 31))) + i10_11)) 8))) : Value) rfl (wanted_none rfl) rfl rfl (by kernel_rfl) (fun _ _ => by kernel_rfl) fun hS => ?_
              obtain ⟨hx31a, hx31b, a_16, hx31, h⟩ := h
              refine t_v (s := Instr.indexAt 33 (.slice t38_9.a t38_9.n t38_9.c : Value) (.int .i64 (IntKind.i64.wrap (Int.tdiv (IntKind.i64.wrap ((Int.tmod at1_6 (IntKind.i64.wrap ((IntKind.i64.wrap (8 * ((b0_1.n : Int)))) - 31))) + i10_11)) 8)) : Value)) hp27 hS 18 (.pointer (some (a_16.add (Int.toNat (IntKind.i64.wrap (Int.tdiv (IntKind.i64.wrap ((Int.tmod at1_6 (IntKind.i64.wrap ((IntKind.i64.wrap (8 * ((b0_1.n : Int)))) - 31))) + i10_11)) 8))))) : Value) rfl (wanted_none rfl) rfl rfl (by kernel_rfl) (by kernel_rfl) (fun _ _ => run_ixs1 (el := 5) (by kernel_rfl) (by kernel_rfl) hx31 hx31a hx31b) fun hS => ?_
              obtain ⟨hx32, h⟩ := h
              replace h := h _ rfl
              refine t_u 19 (s := Instr.storeAt 5 (.pointer (some (a_16.add (Int.toNat (IntKind.i64.wrap (Int.tdiv (IntKind.i64.wrap ((Int.tmod at1_6 (IntKind.i64.wrap ((IntKind.i64.wrap (8 * ((b0_1.n : Int)))) - 31))) + i10_11)) 8)))))) (.int .u8 (ibits .xor .u8 t59_15 (ishl .u8 1 (Int.tmod (IntKind.i64.wrap ((Int.tmod at1_6 (IntKind.i64.wrap ((IntKind.i64.wrap (8 * ((b0_1.n : Int)))) - 31))) + i10_11)) 8))) : Value)) (by kernel_rfl) rfl (wanted_none rfl) rfl (by kernel_rfl) (rn_store1 (by kernel_rfl) rfl hx32) (SF_off (by kernel_rfl) (by kernel_rfl) SF_nil) fun hS => ?_
              generalize w_13.setCell (a_16.add (Int.toNat (IntKind.i64.wrap (Int.tdiv (IntKind.i64.wrap ((Int.tmod at1_6 (IntKind.i64.wrap ((IntKind.i64.wrap (8 * ((b0_1.n : Int)))) - 31))) + i10_11)) 8)))) (.int .u8 (ibits .xor .u8 t59_15 (ishl .u8 1 (Int.tmod (IntKind.i64.wrap ((Int.tmod at1_6 (IntKind.i64.wrap ((IntKind.i64.wrap (8 * ((b0_1.n : Int)))) - 31))) + i10_11)) 8))) : Value) = w_17 at hS h ⊢
              refine t_done (by kernel_rfl) (hE27 _ _ ?_)
              refine e_block_n ?_
              exact y_then (hjK23 _ w_17 rfl rfl rfl rfl rfl h)
            · replace h := h.2 (beq_eq_false_iff_ne.mp hb33)
              refine y_skip ?_
              refine e_block_n ?_
              exact y_then (hjK23 _ w_12 rfl rfl rfl rfl rfl h)
          · replace h := h.2 (of_decide_eq_false hb40)
            refine y_exit ?_
            repeat (first | refine e_then_x ?_ | refine e_block_y rfl ?_)
            refine e_block_x ?_
            refine y_then (hK16 _ _ ?_)
            refine y_seq fun K34 hK34 => ?_
            refine y_region ?_
            refine y_k (.slice (some ⟨w_12.heap.size, 0, none⟩) 0 0 : Value) (w_12.alloc (.cells #[] 5)) rfl rfl rfl (by kernel_rfl) ?_
            replace h := h _ rfl
            generalize w_12.alloc (.cells #[] 5) = w_19 at h ⊢
            refine y_k (.slice b0_1.a b0_1.n b0_1.c : Value) w_19 rfl rfl rfl (by kernel_rfl) ?_
            obtain ⟨t69_20, w_21, hx35, h⟩ := h
            refine y_v (s := Builtin.append_ #[33, 33] 33 #[.slice (some ⟨w_12.heap.size, 0, none⟩) 0 0, .slice b0_1.a b0_1.n b0_1.c]) rfl rfl rfl (by kernel_rfl) hx35 ?_
            refine y_k (.slice t69_20.a t69_20.n t69_20.c : Value) w_21 rfl rfl rfl (by kernel_rfl) ?_
            refine y_nil ?_
            refine y_then (hK34 _ _ ?_)
            refine y_seq fun K36 hK36 => ?_
            have hjK36 : ∀ (f : Fr) (t6_35 : Bool) (w_36 : World), f 6 = (.bool t6_35 : Value) → F10_j4 K t6_35 w_36 → WK K36 89 f w_36 := by
              intro f t6_35 w_36 e6 h
              refine y_atf (upd_id rfl e6) ?_
              clear e6
              unfold F10_j4 at h
              refine hK36 _ _ ?_
              refine y_ret ?_
              repeat (first | refine e_then_r ?_ | refine e_block_r ?_)
              exact (hQ0 _ _ _ (res1 (v := (.bool t6_35 : Value)) rfl rfl rfl) ⟨_, rfl, h⟩).1
            refine y_region ?_
            refine y_k (.slice t38_9.a t38_9.n t38_9.c : Value) w_21 rfl rfl rfl (by kernel_rfl) ?_
            refine y_call rfl rfl rfl (by kernel_rfl) (h.mono ?_)
            rintro _ w_23 ⟨t71_22, rfl, h⟩
            refine ⟨_, rfl, ?_⟩
            refine y_k (.slice b0_1.a b0_1.n b0_1.c : Value) w_23 rfl rfl rfl (by kernel_rfl) ?_
            refine y_call rfl rfl rfl (by kernel_rfl) (h.mono ?_)
            rintro _ w_25 ⟨t73_24, rfl, h⟩
            refine ⟨_, rfl, ?_⟩
            refine y_k (.bool ((t71_22 != t73_24)) : Value) w_25 rfl rfl rfl (by kernel_rfl) ?_
            refine y_k (.bool ((t71_22 != t73_24)) : Value) w_25 rfl rfl rfl (by kernel_rfl) ?_
            refine y_fork ((t71_22 != t73_24)) (fun hb37 => ?_) (fun hb37 => ?_)
            · replace h := h.1 (bne_iff_ne.mp hb37)
              refine y_frame (upd_id (i := 75) (v := .bool true) rfl (congrArg Value.bool hb37)) ?_
              refine y_gyes rfl rfl rfl ?_
              refine y_k (.slice t69_20.a t69_20.n t69_20.c : Value) w_25 rfl rfl rfl (by kernel_rfl) ?_
              refine y_gyes rfl rfl rfl ?_
              refine y_call rfl rfl rfl (by kernel_rfl) (h.mono ?_)
              rintro _ w_27 ⟨t77_26, rfl, h⟩
              refine ⟨_, rfl, ?_⟩
              refine y_gyes rfl rfl rfl ?_
              refine y_k (.slice b0_1.a b0_1.n b0_1.c : Value) w_27 rfl rfl rfl (by kernel_rfl) ?_
              refine y_gyes rfl rfl rfl ?_
              refine y_call rfl rfl rfl (by kernel_rfl) (h.mono ?_)
              rintro _ w_29 ⟨t79_28, rfl, h⟩
              refine ⟨_, rfl, ?_⟩
              refine y_gyes rfl rfl rfl ?_
              refine y_k (.bool ((t77_26 == t79_28)) : Value) w_29 rfl rfl rfl (by kernel_rfl) ?_
              refine y_k (.bool ((t77_26 == t79_28)) : Value) w_29 rfl rfl rfl (by kernel_rfl) ?_
              refine y_k (.bool ((t77_26 == t79_28)) : Value) w_29 rfl rfl rfl (by kernel_rfl) ?_
              refine y_fork ((t77_26 == t79_28)) (fun hb38 => ?_) (fun hb38 => ?_)
              · replace h := h.1 (eq_of_beq hb38)
                refine y_frame (upd_id (i := 82) (v := .bool true) rfl (congrArg Value.bool hb38)) ?_
                refine y_gyes rfl rfl rfl ?_
                refine y_k (.slice t69_20.a t69_20.n t69_20.c : Value) w_29 rfl rfl rfl (by kernel_rfl) ?_
                refine y_gyes rfl rfl rfl ?_
                refine y_call rfl rfl rfl (by kernel_rfl) (h.mono ?_)
                rintro _ w_31 ⟨t84_30, rfl, h⟩
                refine ⟨_, rfl, ?_⟩
                refine y_gyes rfl rfl rfl ?_
                refine y_k (.slice b0_1.a b0_1.n b0_1.c : Value) w_31 rfl rfl rfl (by kernel_rfl) ?_
                refine y_gyes rfl rfl rfl ?_
                refine y_call rfl rfl rfl (by kernel_rfl) (h.mono ?_)
                rintro _ w_33 ⟨t86_32, rfl, h⟩
                refine ⟨_, rfl, ?_⟩
                refine y_gyes rfl rfl rfl ?_
                obtain ⟨t87_34, hx39, h⟩ := h
                refine y_v (s := do eqGuard .eql 50 (Operand.tmp 84) (Operand.tmp 86) t84_30 t86_32; binOp .eql 50 t84_30 t86_32) rfl rfl rfl (by kernel_rfl) (hx39) ?_
                refine y_k (.bool t87_34 : Value) w_33 rfl rfl rfl (by kernel_rfl) ?_
                refine y_k (.bool t87_34 : Value) w_33 rfl rfl rfl (by kernel_rfl) ?_
                refine y_nil ?_
                exact y_then (hjK36 _ t87_34 w_33 rfl h)
              · replace h := h.2 (beq_eq_false_iff_ne.mp hb38)
                refine y_frame (upd_id (i := 82) (v := .bool false) rfl (congrArg Value.bool hb38)) ?_
                refine y_gno rfl rfl rfl rfl ?_
                refine y_gno rfl rfl rfl rfl ?_
                refine y_gno rfl rfl rfl rfl ?_
                refine y_gno rfl rfl rfl rfl ?_
                refine y_gno rfl rfl rfl rfl ?_
                refine y_k (.bool false : Value) w_29 rfl rfl rfl (by kernel_rfl) ?_
                refine y_k (.bool false : Value) w_29 rfl rfl rfl (by kernel_rfl) ?_
                refine y_nil ?_
                exact y_then (hjK36 _ false w_29 rfl h)
            · replace h := h.2 (bne_eq_false_iff_eq.mp hb37)
              refine y_frame (upd_id (i := 75) (v := .bool false) rfl (congrArg Value.bool hb37)) ?_
              refine y_gno rfl rfl rfl rfl ?_
              refine y_gno rfl rfl rfl rfl ?_
              refine y_gno rfl rfl rfl rfl ?_
              refine y_gno rfl rfl rfl rfl ?_
              refine y_gno rfl rfl rfl rfl ?_
              refine y_k (.bool false : Value) w_25 rfl rfl rfl (by kernel_rfl) ?_
              refine y_k (.bool false : Value) w_25 rfl rfl rfl (by kernel_rfl) ?_
              refine y_gno rfl rfl rfl rfl ?_
              refine y_gno rfl rfl rfl rfl ?_
              refine y_gno rfl rfl rfl rfl ?_
              refine y_gno rfl rfl rfl rfl ?_
              refine y_gno rfl rfl rfl rfl ?_
              refine y_k (.bool false : Value) w_25 rfl rfl rfl (by kernel_rfl) ?_
              refine y_k (.bool false : Value) w_25 rfl rfl rfl (by kernel_rfl) ?_
              refine y_nil ?_
              exact y_then (hjK36 _ false w_25 rfl h)
        refine y_seq fun K11 hK11 => ?_
        refine y_region ?_
        refine y_k (.int .i64 at1_2 : Value) w_5 rfl rfl rfl (by kernel_rfl) ?_
        refine y_k (.bool (decide (at1_2 < 0)) : Value) w_5 rfl rfl rfl (by kernel_rfl) ?_
        refine y_nil ?_
        refine y_then (hK11 _ _ ?_)
        refine y_cond (decide (at1_2 < 0)) rfl rfl (fun hb41 => ?_) (fun hb41 => ?_)
        · replace h := h.1 (of_decide_eq_true hb41)
          refine y_region ?_
          refine y_k (.int .i64 at1_2 : Value) w_5 rfl rfl rfl (by kernel_rfl) ?_
          refine y_k (.int .i64 (IntKind.i64.wrap (at1_2 + 1)) : Value) w_5 rfl rfl rfl (by kernel_rfl) ?_
          refine y_k (.int .i64 (IntKind.i64.wrap (0 - (IntKind.i64.wrap (at1_2 + 1)))) : Value) w_5 rfl rfl rfl (by kernel_rfl) ?_
          refine y_k (.int .i64 (IntKind.i64.wrap (0 - (IntKind.i64.wrap (at1_2 + 1)))) : Value) w_5 rfl rfl rfl (by kernel_rfl) ?_
          refine y_nil ?_
          exact y_then (hjK10 _ (IntKind.i64.wrap (0 - (IntKind.i64.wrap (at1_2 + 1)))) w_5 rfl rfl rfl h)
        · replace h := h.2 (of_decide_eq_false hb41)
          refine y_skip ?_
          exact y_then (hjK10 _ at1_2 w_5 rfl rfl rfl h)

end Go.Proofs.Ytjgijifankaglaa
