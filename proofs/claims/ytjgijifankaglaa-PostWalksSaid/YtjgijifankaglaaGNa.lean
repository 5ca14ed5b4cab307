/- Printed by gen.py (own program, wip/): for each Go function a predicate transformer and its soundness. -/
import Derived.Test.YtjgijifankaglaaProg
import Derived.Test.YtjgijifankaglaaST
namespace Go.Proofs.Ytjgijifankaglaa
open Go Go.RowKit Go.Proofs.Ytjgijifankaglaa.SX
set_option linter.unusedVariables false

/-- turnkey/num.copied -/
def F94 (b0_1 : Sl) (room1_2 : Int) (K : Sl → World → Prop) (w : World) : Prop :=
  ∃ (t12_3 : Sl), ∃ (w_4 : World), (Instr.makeSlice 33 (.int .i64 ((b0_1.n : Int)) : Value) (.int .i64 (IntKind.i64.wrap (((b0_1.n : Int)) + room1_2)) : Value)).run Try.prog w = .ok (.slice t12_3.a t12_3.n t12_3.c : Value) w_4 ∧
  ∃ (t15_5 : Int), ∃ (w_6 : World), (Builtin.copy_ #[33, 33] 3 #[.slice t12_3.a t12_3.n t12_3.c, .slice b0_1.a b0_1.n b0_1.c]).run Try.prog w_4 = .ok (.int .i64 t15_5 : Value) w_6 ∧
  K t12_3 w_6
set_option maxHeartbeats 4000000 in
set_option maxRecDepth 20000 in
theorem F94_sound (b0_1 : Sl) (room1_2 : Int) (K : Sl → World → Prop) (w : World) (h : F94 b0_1 room1_2 K w) :
    Calls Try.prog 94 #[.slice b0_1.a b0_1.n b0_1.c, .int .i64 room1_2] w (fun e w1 => ∃ (r0 : Sl), e = .returned (.slice r0.a r0.n r0.c : Value) ∧ K r0 w1) := by
  unfold F94 at h
  refine y_enter (n := 17) (args := [.slice b0_1.a b0_1.n b0_1.c, .int .i64 room1_2]) Try.func94 rfl rfl rfl fun Q0 hQ0 => ?_
  refine y_seq fun K1 hK1 => ?_
  refine y_region ?_
  refine y_k (.slice none 0 0 : Value) w rfl rfl rfl (by kernel_rfl) ?_
  refine y_nil ?_
  refine y_then (hK1 _ _ ?_)
  refine y_seq fun K2 hK2 => ?_
  refine y_region ?_
  refine y_k (.slice b0_1.a b0_1.n b0_1.c : Value) w rfl rfl rfl (by kernel_rfl) ?_
  refine y_k (.int .i64 ((b0_1.n : Int)) : Value) w rfl rfl rfl (by kernel_rfl) ?_
  refine y_k (.slice b0_1.a b0_1.n b0_1.c : Value) w rfl rfl rfl (by kernel_rfl) ?_
  refine y_k (.int .i64 ((b0_1.n : Int)) : Value) w rfl rfl rfl (by kernel_rfl) ?_
  refine y_k (.int .i64 room1_2 : Value) w rfl rfl rfl (by kernel_rfl) ?_
  refine y_k (.int .i64 (IntKind.i64.wrap (((b0_1.n : Int)) + room1_2)) : Value) w rfl rfl rfl (by kernel_rfl) ?_
  obtain ⟨t12_3, w_4, hx3, h⟩ := h
  refine y_v (s := Instr.makeSlice 33 (.int .i64 ((b0_1.n : Int)) : Value) (.int .i64 (IntKind.i64.wrap (((b0_1.n : Int)) + room1_2)) : Value)) rfl rfl rfl (by kernel_rfl) hx3 ?_
  refine y_k (.slice t12_3.a t12_3.n t12_3.c : Value) w_4 rfl rfl rfl (by kernel_rfl) ?_
  refine y_nil ?_
  refine y_then (hK2 _ _ ?_)
  refine y_seq fun K4 hK4 => ?_
  refine y_region ?_
  refine y_k (.slice t12_3.a t12_3.n t12_3.c : Value) w_4 rfl rfl rfl (by kernel_rfl) ?_
  refine y_k (.slice b0_1.a b0_1.n b0_1.c : Value) w_4 rfl rfl rfl (by kernel_rfl) ?_
  obtain ⟨t15_5, w_6, hx5, h⟩ := h
  refine y_v (s := Builtin.copy_ #[33, 33] 3 #[.slice t12_3.a t12_3.n t12_3.c, .slice b0_1.a b0_1.n b0_1.c]) rfl rfl rfl (by kernel_rfl) hx5 ?_
  refine y_nil ?_
  refine y_then (hK4 _ _ ?_)
  refine y_seq fun K6 hK6 => ?_
  refine y_region ?_
  refine y_k (.slice t12_3.a t12_3.n t12_3.c : Value) w_6 rfl rfl rfl (by kernel_rfl) ?_
  refine y_k (.slice t12_3.a t12_3.n t12_3.c : Value) w_6 rfl rfl rfl (by kernel_rfl) ?_
  refine y_nil ?_
  refine y_then (hK6 _ _ ?_)
  refine y_ret ?_
  repeat (first | refine e_then_r ?_ | refine e_block_r ?_)
  exact (hQ0 _ _ _ (res1 (v := (.slice t12_3.a t12_3.n t12_3.c : Value)) rfl rfl rfl) ⟨_, rfl, h⟩).1

def F69_j2 (K : Sl → World → Prop) (n1_9 : Int) (out5_10 : Sl) (w_11 : World) : Prop :=
  ∀ (w_12 : World), w_12 = w_11.alloc (.cells #[.int .u8 (IntKind.u8.wrap n1_9)] 5) →
  ∃ (t25_13 : Sl), ∃ (w_14 : World), (Builtin.append_ #[33, 33] 33 #[.slice out5_10.a out5_10.n out5_10.c, .slice (some ⟨w_11.heap.size, 0, none⟩) 1 1]).run Try.prog w_12 = .ok (.slice t25_13.a t25_13.n t25_13.c : Value) w_14 ∧
  K t25_13 w_14
def F69_l1 (K : Sl → World → Prop) (next6 : (Int × Sl × Int) → World → Prop) : (Int × Sl × Int) → World → Prop := fun (n1_5, out5_6, t8_7) w_8 =>
  ((t8_7 < 9 →
  ((n1_5 < 128 →
  F69_j2 K n1_5 out5_6 w_8) ∧
  (¬ (n1_5 < 128) →
  ∀ (w_15 : World), w_15 = w_8.alloc (.cells #[.int .u8 (ibits .or .u8 (IntKind.u8.wrap n1_5) 128)] 5) →
  ∃ (t17_16 : Sl), ∃ (w_17 : World), (Builtin.append_ #[33, 33] 33 #[.slice out5_6.a out5_6.n out5_6.c, .slice (some ⟨w_8.heap.size, 0, none⟩) 1 1]).run Try.prog w_15 = .ok (.slice t17_16.a t17_16.n t17_16.c : Value) w_17 ∧
  next6 (Int.fdiv n1_5 (2 ^ 7), t17_16, IntKind.i64.wrap (t8_7 + 1)) w_17))) ∧
  (¬ (t8_7 < 9) →
  F69_j2 K n1_5 out5_6 w_8))
/-- turnkey/num.PutUint -/
def F69 (b0_1 : Sl) (n1_2 : Int) (K : Sl → World → Prop) (w : World) : Prop :=
  Calls Try.prog 94 #[.slice b0_1.a b0_1.n b0_1.c, .int .i64 10] w fun e w_4 => ∃ (t7_3 : Sl), e = .returned (.slice t7_3.a t7_3.n t7_3.c : Value) ∧
  kLoop (F69_l1 K) (n1_2, t7_3, 0) w_4
set_option maxHeartbeats 4000000 in
set_option maxRecDepth 20000 in
theorem F69_sound (b0_1 : Sl) (n1_2 : Int) (K : Sl → World → Prop) (w : World) (h : F69 b0_1 n1_2 K w) :
    Calls Try.prog 69 #[.slice b0_1.a b0_1.n b0_1.c, .int .u64 n1_2] w (fun e w1 => ∃ (r0 : Sl), e = .returned (.slice r0.a r0.n r0.c : Value) ∧ K r0 w1) := by
  unfold F69 at h
  refine y_enter (n := 26) (args := [.slice b0_1.a b0_1.n b0_1.c, .int .u64 n1_2]) Try.func69 rfl rfl rfl fun Q0 hQ0 => ?_
  refine y_seq fun K1 hK1 => ?_
  refine y_region ?_
  refine y_k (.slice none 0 0 : Value) w rfl rfl rfl (by kernel_rfl) ?_
  refine y_nil ?_
  refine y_then (hK1 _ _ ?_)
  refine y_seq fun K2 hK2 => ?_
  refine y_region ?_
  refine y_k (.slice b0_1.a b0_1.n b0_1.c : Value) w rfl rfl rfl (by kernel_rfl) ?_
  refine y_call rfl rfl rfl (by kernel_rfl) (h.mono ?_)
  rintro _ w_4 ⟨t7_3, rfl, h⟩
  refine ⟨_, rfl, ?_⟩
  refine y_k (.slice t7_3.a t7_3.n t7_3.c : Value) w_4 rfl rfl rfl (by kernel_rfl) ?_
  refine y_nil ?_
  refine y_then (hK2 _ _ ?_)
  refine y_seq fun K3 hK3 => ?_
  have hjK3 : ∀ (f : Fr) (n1_9 : Int) (out5_10 : Sl) (w_11 : World), f 1 = (.int .u64 n1_9 : Value) → f 5 = (.slice out5_10.a out5_10.n out5_10.c : Value) → F69_j2 K n1_9 out5_10 w_11 → WK K3 26 f w_11 := by
    intro f n1_9 out5_10 w_11 e1 e5 h
    refine y_atf (upd_id (upd_id rfl e1) e5) ?_
    clear e1 e5
    unfold F69_j2 at h
    refine hK3 _ _ ?_
    refine y_seq fun K14 hK14 => ?_
    refine y_region ?_
    refine y_k (.slice out5_10.a out5_10.n out5_10.c : Value) w_11 rfl rfl rfl (by kernel_rfl) ?_
    refine y_k (.int .u64 n1_9 : Value) w_11 rfl rfl rfl (by kernel_rfl) ?_
    refine y_k (.int .u8 (IntKind.u8.wrap n1_9) : Value) w_11 rfl rfl rfl (by kernel_rfl) ?_
    refine y_k (.slice (some ⟨w_11.heap.size, 0, none⟩) 1 1 : Value) (w_11.alloc (.cells #[.int .u8 (IntKind.u8.wrap n1_9)] 5)) rfl rfl rfl (by kernel_rfl) ?_
    replace h := h _ rfl
    generalize w_11.alloc (.cells #[.int .u8 (IntKind.u8.wrap n1_9)] 5) = w_12 at h ⊢
    obtain ⟨t25_13, w_14, hx15, h⟩ := h
    refine y_v (s := Builtin.append_ #[33, 33] 33 #[.slice out5_10.a out5_10.n out5_10.c, .slice (some ⟨w_11.heap.size, 0, none⟩) 1 1]) rfl rfl rfl (by kernel_rfl) hx15 ?_
    refine y_k (.slice t25_13.a t25_13.n t25_13.c : Value) w_14 rfl rfl rfl (by kernel_rfl) ?_
    refine y_nil ?_
    refine y_then (hK14 _ _ ?_)
    refine y_ret ?_
    repeat (first | refine e_then_r ?_ | refine e_block_r ?_)
    exact (hQ0 _ _ _ (res1 (v := (.slice t25_13.a t25_13.n t25_13.c : Value)) rfl rfl rfl) ⟨_, rfl, h⟩).1
  refine y_seq fun K4 hK4 => ?_
  refine y_region ?_
  refine y_k (.int .i64 0 : Value) w_4 rfl rfl rfl (by kernel_rfl) ?_
  refine y_nil ?_
  refine y_then (hK4 _ _ ?_)
  refine y_block ?_
  refine y_loop (S := Int × Sl × Int) (fun s j => match s with | (n1_5, out5_6, t8_7) => upd (upd (upd (j) 1 (.int .u64 n1_5 : Value)) 5 (.slice out5_6.a out5_6.n out5_6.c : Value)) 8 (.int .i64 t8_7 : Value)) (n1_2, t7_3, 0) ?_ h ?_
  · dsimp only
    refine upd_id ?_ rfl
    refine upd_id ?_ rfl
    refine upd_id ?_ rfl
    rfl
  rintro KN7 next6 hN7 ⟨n1_5, out5_6, t8_7⟩ j w_8 h
  unfold F69_l1 at h
  refine y_seq fun K8 hK8 => ?_
  refine y_region ?_
  refine y_k (.bool (decide (t8_7 < 9)) : Value) w_8 rfl rfl rfl (by kernel_rfl) ?_
  refine y_nil ?_
  refine y_then (hK8 _ _ ?_)
  refine y_seq fun K9 hK9 => ?_
  refine y_cond (decide (t8_7 < 9)) rfl rfl (fun hb19 => ?_) (fun hb19 => ?_)
  · replace h := h.1 (of_decide_eq_true hb19)
    refine y_skip ?_
    refine y_then (hK9 _ _ ?_)
    refine y_seq fun K10 hK10 => ?_
    refine y_block ?_
    refine y_seq fun K12 hK12 => ?_
    refine y_seq fun K13 hK13 => ?_
    refine y_region ?_
    refine y_k (.int .u64 n1_5 : Value) w_8 rfl rfl rfl (by kernel_rfl) ?_
    refine y_k (.bool (decide (n1_5 < 128)) : Value) w_8 rfl rfl rfl (by kernel_rfl) ?_
    refine y_nil ?_
    refine y_then (hK13 _ _ ?_)
    refine y_cond (decide (n1_5 < 128)) rfl rfl (fun hb18 => ?_) (fun hb18 => ?_)
    · replace h := h.1 (of_decide_eq_true hb18)
      refine y_exit ?_
      repeat (first | refine e_then_x ?_ | refine e_block_y rfl ?_)
      refine e_block_x ?_
      exact y_then (hjK3 _ n1_5 out5_6 w_8 rfl rfl h)
    · replace h := h.2 (of_decide_eq_false hb18)
      refine y_skip ?_
      refine y_then (hK12 _ _ ?_)
      refine y_seq fun K16 hK16 => ?_
      refine y_region ?_
      refine y_k (.slice out5_6.a out5_6.n out5_6.c : Value) w_8 rfl rfl rfl (by kernel_rfl) ?_
      refine y_k (.int .u64 n1_5 : Value) w_8 rfl rfl rfl (by kernel_rfl) ?_
      refine y_k (.int .u8 (IntKind.u8.wrap n1_5) : Value) w_8 rfl rfl rfl (by kernel_rfl) ?_
      refine y_k (.int .u8 (ibits .or .u8 (IntKind.u8.wrap n1_5) 128) : Value) w_8 rfl rfl rfl (by kernel_rfl) ?_
      refine y_k (.slice (some ⟨w_8.heap.size, 0, none⟩) 1 1 : Value) (w_8.alloc (.cells #[.int .u8 (ibits .or .u8 (IntKind.u8.wrap n1_5) 128)] 5)) rfl rfl rfl (by kernel_rfl) ?_
      replace h := h _ rfl
      generalize w_8.alloc (.cells #[.int .u8 (ibits .or .u8 (IntKind.u8.wrap n1_5) 128)] 5) = w_15 at h ⊢
      obtain ⟨t17_16, w_17, hx17, h⟩ := h
      refine y_v (s := Builtin.append_ #[33, 33] 33 #[.slice out5_6.a out5_6.n out5_6.c, .slice (some ⟨w_8.heap.size, 0, none⟩) 1 1]) rfl rfl rfl (by kernel_rfl) hx17 ?_
      refine y_k (.slice t17_16.a t17_16.n t17_16.c : Value) w_17 rfl rfl rfl (by kernel_rfl) ?_
      refine y_nil ?_
      refine y_then (hK16 _ _ ?_)
      refine y_region ?_
      refine y_k (.int .u64 n1_5 : Value) w_17 rfl rfl rfl (by kernel_rfl) ?_
      refine y_k (.int .u64 (Int.fdiv n1_5 (2 ^ 7)) : Value) w_17 rfl rfl rfl (by kernel_rfl) ?_
      refine y_k (.int .u64 (Int.fdiv n1_5 (2 ^ 7)) : Value) w_17 rfl rfl rfl (by kernel_rfl) ?_
      refine y_nil ?_
      refine e_block_n ?_
      refine y_then (hK10 _ _ ?_)
      refine y_region ?_
      refine y_k (.int .i64 (IntKind.i64.wrap (t8_7 + 1)) : Value) w_17 rfl rfl rfl (by kernel_rfl) ?_
      refine y_k (.int .i64 (IntKind.i64.wrap (t8_7 + 1)) : Value) w_17 rfl rfl rfl (by kernel_rfl) ?_
      refine y_nil ?_
      refine y_then (hN7 (Int.fdiv n1_5 (2 ^ 7), t17_16, IntKind.i64.wrap (t8_7 + 1)) _ _ h ?_)
      dsimp only
      refine upd_id ?_ rfl
      refine upd_id ?_ rfl
      refine upd_id ?_ rfl
      rfl
  · replace h := h.2 (of_decide_eq_false hb19)
    refine y_exit ?_
    repeat (first | refine e_then_x ?_ | refine e_block_y rfl ?_)
    refine e_block_x ?_
    exact y_then (hjK3 _ n1_5 out5_6 w_8 rfl rfl h)

def F70_l1 (K : Sl → World → Prop) (next7 : (Int × Sl) → World → Prop) : (Int × Sl) → World → Prop := fun (n1_5, out5_6) w_7 =>
  ((n1_5 ≥ 128 →
  ∀ (w_8 : World), w_8 = w_7.alloc (.cells #[.int .u8 (IntKind.u8.wrap (IntKind.u64.wrap ((Int.tmod n1_5 128) + 128)))] 5) →
  ∃ (t17_9 : Sl), ∃ (w_10 : World), (Builtin.append_ #[33, 33] 33 #[.slice out5_6.a out5_6.n out5_6.c, .slice (some ⟨w_7.heap.size, 0, none⟩) 1 1]).run Try.prog w_8 = .ok (.slice t17_9.a t17_9.n t17_9.c : Value) w_10 ∧
  next7 (IntKind.u64.wrap (Int.tdiv n1_5 128), t17_9) w_10) ∧
  (¬ (n1_5 ≥ 128) →
  ∀ (w_11 : World), w_11 = w_7.alloc (.cells #[.int .u8 (IntKind.u8.wrap n1_5)] 5) →
  ∃ (t24_12 : Sl), ∃ (w_13 : World), (Builtin.append_ #[33, 33] 33 #[.slice out5_6.a out5_6.n out5_6.c, .slice (some ⟨w_7.heap.size, 0, none⟩) 1 1]).run Try.prog w_11 = .ok (.slice t24_12.a t24_12.n t24_12.c : Value) w_13 ∧
  K t24_12 w_13))
/-- turnkey/turnkeyref01.PutUint -/
def F70 (b0_1 : Sl) (n1_2 : Int) (K : Sl → World → Prop) (w : World) : Prop :=
  ∃ (t8_3 : Sl), ∃ (w_4 : World), (Builtin.append_ #[33, 33] 33 #[.slice none 0 0, .slice b0_1.a b0_1.n b0_1.c]).run Try.prog w = .ok (.slice t8_3.a t8_3.n t8_3.c : Value) w_4 ∧
  kLoop (F70_l1 K) (n1_2, t8_3) w_4
set_option maxHeartbeats 4000000 in
set_option maxRecDepth 20000 in
theorem F70_sound (b0_1 : Sl) (n1_2 : Int) (K : Sl → World → Prop) (w : World) (h : F70 b0_1 n1_2 K w) :
    Calls Try.prog 70 #[.slice b0_1.a b0_1.n b0_1.c, .int .u64 n1_2] w (fun e w1 => ∃ (r0 : Sl), e = .returned (.slice r0.a r0.n r0.c : Value) ∧ K r0 w1) := by
  unfold F70 at h
  refine y_enter (n := 25) (args := [.slice b0_1.a b0_1.n b0_1.c, .int .u64 n1_2]) Try.func70 rfl rfl rfl fun Q0 hQ0 => ?_
  refine y_seq fun K1 hK1 => ?_
  refine y_region ?_
  refine y_k (.slice none 0 0 : Value) w rfl rfl rfl (by kernel_rfl) ?_
  refine y_nil ?_
  refine y_then (hK1 _ _ ?_)
  refine y_seq fun K2 hK2 => ?_
  refine y_region ?_
  refine y_k (.slice none 0 0 : Value) w rfl rfl rfl (by kernel_rfl) ?_
  refine y_nil ?_
  refine y_then (hK2 _ _ ?_)
  refine y_seq fun K3 hK3 => ?_
  refine y_region ?_
  refine y_k (.slice none 0 0 : Value) w rfl rfl rfl (by kernel_rfl) ?_
  refine y_k (.slice b0_1.a b0_1.n b0_1.c : Value) w rfl rfl rfl (by kernel_rfl) ?_
  obtain ⟨t8_3, w_4, hx4, h⟩ := h
  refine y_v (s := Builtin.append_ #[33, 33] 33 #[.slice none 0 0, .slice b0_1.a b0_1.n b0_1.c]) rfl rfl rfl (by kernel_rfl) hx4 ?_
  refine y_k (.slice t8_3.a t8_3.n t8_3.c : Value) w_4 rfl rfl rfl (by kernel_rfl) ?_
  refine y_nil ?_
  refine y_then (hK3 _ _ ?_)
  refine y_seq fun K5 hK5 => ?_
  refine y_block ?_
  refine y_loop (S := Int × Sl) (fun s j => match s with | (n1_5, out5_6) => upd (upd (j) 1 (.int .u64 n1_5 : Value)) 5 (.slice out5_6.a out5_6.n out5_6.c : Value)) (n1_2, t8_3) ?_ h ?_
  · dsimp only
    refine upd_id ?_ rfl
    refine upd_id ?_ rfl
    rfl
  rintro KN8 next7 hN8 ⟨n1_5, out5_6⟩ j w_7 h
  unfold F70_l1 at h
  refine y_seq fun K9 hK9 => ?_
  refine y_seq fun K10 hK10 => ?_
  refine y_region ?_
  refine y_k (.int .u64 n1_5 : Value) w_7 rfl rfl rfl (by kernel_rfl) ?_
  refine y_k (.bool (decide (n1_5 ≥ 128)) : Value) w_7 rfl rfl rfl (by kernel_rfl) ?_
  refine y_nil ?_
  refine y_then (hK10 _ _ ?_)
  refine y_cond (decide (n1_5 ≥ 128)) rfl rfl (fun hb16 => ?_) (fun hb16 => ?_)
  · replace h := h.1 (of_decide_eq_true hb16)
    refine y_skip ?_
    refine y_then (hK9 _ _ ?_)
    refine y_block ?_
    refine y_seq fun K12 hK12 => ?_
    refine y_region ?_
    refine y_k (.slice out5_6.a out5_6.n out5_6.c : Value) w_7 rfl rfl rfl (by kernel_rfl) ?_
    refine y_k (.int .u64 n1_5 : Value) w_7 rfl rfl rfl (by kernel_rfl) ?_
    refine y_k (.int .u64 (Int.tmod n1_5 128) : Value) w_7 rfl rfl rfl (by kernel_rfl) ?_
    refine y_k (.int .u64 (IntKind.u64.wrap ((Int.tmod n1_5 128) + 128)) : Value) w_7 rfl rfl rfl (by kernel_rfl) ?_
    refine y_k (.int .u8 (IntKind.u8.wrap (IntKind.u64.wrap ((Int.tmod n1_5 128) + 128))) : Value) w_7 rfl rfl rfl (by kernel_rfl) ?_
    refine y_k (.slice (some ⟨w_7.heap.size, 0, none⟩) 1 1 : Value) (w_7.alloc (.cells #[.int .u8 (IntKind.u8.wrap (IntKind.u64.wrap ((Int.tmod n1_5 128) + 128)))] 5)) rfl rfl rfl (by kernel_rfl) ?_
    replace h := h _ rfl
    generalize w_7.alloc (.cells #[.int .u8 (IntKind.u8.wrap (IntKind.u64.wrap ((Int.tmod n1_5 128) + 128)))] 5) = w_8 at h ⊢
    obtain ⟨t17_9, w_10, hx13, h⟩ := h
    refine y_v (s := Builtin.append_ #[33, 33] 33 #[.slice out5_6.a out5_6.n out5_6.c, .slice (some ⟨w_7.heap.size, 0, none⟩) 1 1]) rfl rfl rfl (by kernel_rfl) hx13 ?_
    refine y_k (.slice t17_9.a t17_9.n t17_9.c : Value) w_10 rfl rfl rfl (by kernel_rfl) ?_
    refine y_nil ?_
    refine y_then (hK12 _ _ ?_)
    refine y_region ?_
    refine y_k (.int .u64 n1_5 : Value) w_10 rfl rfl rfl (by kernel_rfl) ?_
    refine y_k (.int .u64 (IntKind.u64.wrap (Int.tdiv n1_5 128)) : Value) w_10 rfl rfl rfl (by kernel_rfl) ?_
    refine y_k (.int .u64 (IntKind.u64.wrap (Int.tdiv n1_5 128)) : Value) w_10 rfl rfl rfl (by kernel_rfl) ?_
    refine y_nil ?_
    refine e_block_n ?_
    refine y_then (hN8 (IntKind.u64.wrap (Int.tdiv n1_5 128), t17_9) _ _ h ?_)
    dsimp only
    refine upd_id ?_ rfl
    refine upd_id ?_ rfl
    rfl
  · replace h := h.2 (of_decide_eq_false hb16)
    refine y_exit ?_
    repeat (first | refine e_then_x ?_ | refine e_block_y rfl ?_)
    refine e_block_x ?_
    refine y_then (hK5 _ _ ?_)
    refine y_seq fun K14 hK14 => ?_
    refine y_region ?_
    refine y_k (.slice out5_6.a out5_6.n out5_6.c : Value) w_7 rfl rfl rfl (by kernel_rfl) ?_
    refine y_k (.int .u64 n1_5 : Value) w_7 rfl rfl rfl (by kernel_rfl) ?_
    refine y_k (.int .u8 (IntKind.u8.wrap n1_5) : Value) w_7 rfl rfl rfl (by kernel_rfl) ?_
    refine y_k (.slice (some ⟨w_7.heap.size, 0, none⟩) 1 1 : Value) (w_7.alloc (.cells #[.int .u8 (IntKind.u8.wrap n1_5)] 5)) rfl rfl rfl (by kernel_rfl) ?_
    replace h := h _ rfl
    generalize w_7.alloc (.cells #[.int .u8 (IntKind.u8.wrap n1_5)] 5) = w_11 at h ⊢
    obtain ⟨t24_12, w_13, hx15, h⟩ := h
    refine y_v (s := Builtin.append_ #[33, 33] 33 #[.slice out5_6.a out5_6.n out5_6.c, .slice (some ⟨w_7.heap.size, 0, none⟩) 1 1]) rfl rfl rfl (by kernel_rfl) hx15 ?_
    refine y_k (.slice t24_12.a t24_12.n t24_12.c : Value) w_13 rfl rfl rfl (by kernel_rfl) ?_
    refine y_nil ?_
    refine y_then (hK14 _ _ ?_)
    refine y_ret ?_
    repeat (first | refine e_then_r ?_ | refine e_block_r ?_)
    exact (hQ0 _ _ _ (res1 (v := (.slice t24_12.a t24_12.n t24_12.c : Value)) rfl rfl rfl) ⟨_, rfl, h⟩).1

def F71_j2 (K : Int → Int → World → Prop) (w_7 : World) : Prop :=
  K 0 0 w_7
def F71_l1 (b0_1 : Sl) (K : Int → Int → World → Prop) (next6 : (Int × Int) → World → Prop) : (Int × Int) → World → Prop := fun (n4_2, t10_3) w_4 =>
  ((t10_3 < ((if 10 < ((b0_1.n : Int)) then 10 else ((b0_1.n : Int)))) →
  (0 : Int) ≤ t10_3 ∧ t10_3 < (b0_1.n : Int) ∧ ∃ (a_5 : Addr), b0_1.a = some a_5 ∧
  ∃ (t16_6 : Int), w_4.cell? (a_5.add (Int.toNat t10_3)) = some (.int .u8 t16_6) ∧
  (0 : Int) ≤ (IntKind.i64.wrap (7 * t10_3)) ∧
  ((t16_6 ≥ 128 →
  next6 (ibits .or .u64 n4_2 (ishl .u64 (IntKind.u64.wrap (ibits .and .u8 t16_6 127)) (IntKind.i64.wrap (7 * t10_3))), IntKind.i64.wrap (t10_3 + 1)) w_4) ∧
  (¬ (t16_6 ≥ 128) →
  ((t10_3 > 0 →
  ((t16_6 = 0 →
  F71_j2 K w_4) ∧
  (¬ t16_6 = 0 →
  ((t10_3 = 9 →
  ((t16_6 > 1 →
  F71_j2 K w_4) ∧
  (¬ (t16_6 > 1) →
  K (ibits .or .u64 n4_2 (ishl .u64 (IntKind.u64.wrap (ibits .and .u8 t16_6 127)) (IntKind.i64.wrap (7 * t10_3)))) (IntKind.i64.wrap (t10_3 + 1)) w_4))) ∧
  (¬ t10_3 = 9 →
  K (ibits .or .u64 n4_2 (ishl .u64 (IntKind.u64.wrap (ibits .and .u8 t16_6 127)) (IntKind.i64.wrap (7 * t10_3)))) (IntKind.i64.wrap (t10_3 + 1)) w_4))))) ∧
  (¬ (t10_3 > 0) →
  ((t10_3 = 9 →
  ((t16_6 > 1 →
  F71_j2 K w_4) ∧
  (¬ (t16_6 > 1) →
  K (ibits .or .u64 n4_2 (ishl .u64 (IntKind.u64.wrap (ibits .and .u8 t16_6 127)) (IntKind.i64.wrap (7 * t10_3)))) (IntKind.i64.wrap (t10_3 + 1)) w_4))) ∧
  (¬ t10_3 = 9 →
  K (ibits .or .u64 n4_2 (ishl .u64 (IntKind.u64.wrap (ibits .and .u8 t16_6 127)) (IntKind.i64.wrap (7 * t10_3)))) (IntKind.i64.wrap (t10_3 + 1)) w_4))))))) ∧
  (¬ (t10_3 < ((if 10 < ((b0_1.n : Int)) then 10 else ((b0_1.n : Int))))) →
  F71_j2 K w_4))
/-- turnkey/num.Uint -/
def F71 (b0_1 : Sl) (K : Int → Int → World → Prop) (w : World) : Prop :=
  kLoop (F71_l1 b0_1 K) (0, 0) w
set_option maxHeartbeats 4000000 in
set_option maxRecDepth 20000 in
theorem F71_sound (b0_1 : Sl) (K : Int → Int → World → Prop) (w : World) (h : F71 b0_1 K w) :
    Calls Try.prog 71 #[.slice b0_1.a b0_1.n b0_1.c] w (fun e w1 => ∃ (r0 : Int), ∃ (r1 : Int), e = .returned (.tuple #[.int .u64 r0, .int .i64 r1]) ∧ K r0 r1 w1) := by
  unfold F71 at h
  refine y_enter (n := 45) (args := [.slice b0_1.a b0_1.n b0_1.c]) Try.func71 rfl rfl rfl fun Q0 hQ0 => ?_
  refine y_seq fun K1 hK1 => ?_
  refine y_region ?_
  refine y_k (.int .u64 0 : Value) w rfl rfl rfl (by kernel_rfl) ?_
  refine y_k (.int .i64 0 : Value) w rfl rfl rfl (by kernel_rfl) ?_
  refine y_nil ?_
  refine y_then (hK1 _ _ ?_)
  refine y_seq fun K2 hK2 => ?_
  refine y_region ?_
  refine y_k (.int .u64 0 : Value) w rfl rfl rfl (by kernel_rfl) ?_
  refine y_nil ?_
  refine y_then (hK2 _ _ ?_)
  refine y_seq fun K3 hK3 => ?_
  have hjK3 : ∀ (f : Fr) (w_7 : World), F71_j2 K w_7 → WK K3 45 f w_7 := by
    intro f  w_7 h
    refine y_atf rfl ?_
    skip
    unfold F71_j2 at h
    refine hK3 _ _ ?_
    refine y_seq fun K24 hK24 => ?_
    refine y_region ?_
    refine y_k (.int .u64 0 : Value) w_7 rfl rfl rfl (by kernel_rfl) ?_
    refine y_k (.int .i64 0 : Value) w_7 rfl rfl rfl (by kernel_rfl) ?_
    refine y_nil ?_
    refine y_then (hK24 _ _ ?_)
    refine y_ret ?_
    repeat (first | refine e_then_r ?_ | refine e_block_r ?_)
    exact (hQ0 _ _ _ (res2 (v1 := (.int .u64 0 : Value)) (v2 := (.int .i64 0 : Value)) rfl rfl rfl rfl) ⟨_, _, rfl, h⟩).1
  refine y_seq fun K4 hK4 => ?_
  refine y_region ?_
  refine y_k (.slice b0_1.a b0_1.n b0_1.c : Value) w rfl rfl rfl (by kernel_rfl) ?_
  refine y_k (.int .i64 ((b0_1.n : Int)) : Value) w rfl rfl rfl (by kernel_rfl) ?_
  refine y_v (v := (.int .i64 ((if 10 < ((b0_1.n : Int)) then 10 else ((b0_1.n : Int)))) : Value)) (s := Builtin.min_ #[3, 3] 3 #[.int .i64 ((b0_1.n : Int)), .int .i64 10]) rfl rfl rfl (by kernel_rfl) (run_min2) ?_
  refine y_k (.int .i64 0 : Value) w rfl rfl rfl (by kernel_rfl) ?_
  refine y_nil ?_
  refine y_then (hK4 _ _ ?_)
  refine y_block ?_
  refine y_loop (S := Int × Int) (fun s j => match s with | (n4_2, t10_3) => upd (upd (upd (upd (j) 0 (.slice b0_1.a b0_1.n b0_1.c : Value)) 4 (.int .u64 n4_2 : Value)) 9 (.int .i64 ((if 10 < ((b0_1.n : Int)) then 10 else ((b0_1.n : Int)))) : Value)) 10 (.int .i64 t10_3 : Value)) (0, 0) ?_ h ?_
  · dsimp only
    refine upd_id ?_ rfl
    refine upd_id ?_ rfl
    refine upd_id ?_ rfl
    refine upd_id ?_ rfl
    rfl
  rintro KN7 next6 hN7 ⟨n4_2, t10_3⟩ j w_4 h
  unfold F71_l1 at h
  refine y_seq fun K8 hK8 => ?_
  refine y_region ?_
  refine y_k (.bool (decide (t10_3 < ((if 10 < ((b0_1.n : Int)) then 10 else ((b0_1.n : Int)))))) : Value) w_4 rfl rfl rfl (by kernel_rfl) ?_
  refine y_nil ?_
  refine y_then (hK8 _ _ ?_)
  refine y_seq fun K9 hK9 => ?_
  refine y_cond (decide (t10_3 < ((if 10 < ((b0_1.n : Int)) then 10 else ((b0_1.n : Int)))))) rfl rfl (fun hb34 => ?_) (fun hb34 => ?_)
  · replace h := h.1 (of_decide_eq_true hb34)
    refine y_skip ?_
    refine y_then (hK9 _ _ ?_)
    refine y_seq fun K10 hK10 => ?_
    refine y_block ?_
    refine y_seq fun K12 hK12 => ?_
    refine y_region ?_
    refine y_k (.int .i64 t10_3 : Value) w_4 rfl rfl rfl (by kernel_rfl) ?_
    refine y_k (.int .i64 t10_3 : Value) w_4 rfl rfl rfl (by kernel_rfl) ?_
    refine y_nil ?_
    refine y_then (hK12 _ _ ?_)
    refine y_seq fun K13 hK13 => ?_
    refine y_region ?_
    refine y_k (.slice b0_1.a b0_1.n b0_1.c : Value) w_4 rfl rfl rfl (by kernel_rfl) ?_
    refine y_k (.int .i64 t10_3 : Value) w_4 rfl rfl rfl (by kernel_rfl) ?_
    obtain ⟨hx14a, hx14b, a_5, hx14, h⟩ := h
    refine y_v (v := (.pointer (some (a_5.add (Int.toNat t10_3))) : Value)) (s := Instr.indexAt 33 (.slice b0_1.a b0_1.n b0_1.c : Value) (.int .i64 t10_3 : Value)) rfl rfl rfl (by kernel_rfl) (run_ixs1 (el := 5) (by kernel_rfl) (by kernel_rfl) hx14 hx14a hx14b) ?_
    obtain ⟨t16_6, hx15, h⟩ := h
    refine y_v (s := Instr.loadAt 5 (.pointer (some (a_5.add (Int.toNat t10_3))))) rfl rfl rfl (by kernel_rfl) (rn_load (by kernel_rfl) hx15) ?_
    refine y_k (.int .u8 t16_6 : Value) w_4 rfl rfl rfl (by kernel_rfl) ?_
    refine y_nil ?_
    refine y_then (hK13 _ _ ?_)
    refine y_seq fun K16 hK16 => ?_
    refine y_region ?_
    refine y_k (.int .u64 n4_2 : Value) w_4 rfl rfl rfl (by kernel_rfl) ?_
    refine y_k (.int .u8 t16_6 : Value) w_4 rfl rfl rfl (by kernel_rfl) ?_
    refine y_k (.int .u8 (ibits .and .u8 t16_6 127) : Value) w_4 rfl rfl rfl (by kernel_rfl) ?_
    refine y_k (.int .u64 (IntKind.u64.wrap (ibits .and .u8 t16_6 127)) : Value) w_4 rfl rfl rfl (by kernel_rfl) ?_
    refine y_k (.int .i64 t10_3 : Value) w_4 rfl rfl rfl (by kernel_rfl) ?_
    refine y_k (.int .i64 (IntKind.i64.wrap (7 * t10_3)) : Value) w_4 rfl rfl rfl (by kernel_rfl) ?_
    obtain ⟨hx17, h⟩ := h
    refine y_k (.int .u64 (ishl .u64 (IntKind.u64.wrap (ibits .and .u8 t16_6 127)) (IntKind.i64.wrap (7 * t10_3))) : Value) w_4 rfl rfl rfl (run_shl hx17 rfl rfl) ?_
    refine y_k (.int .u64 (ibits .or .u64 n4_2 (ishl .u64 (IntKind.u64.wrap (ibits .and .u8 t16_6 127)) (IntKind.i64.wrap (7 * t10_3)))) : Value) w_4 rfl rfl rfl (by kernel_rfl) ?_
    refine y_k (.int .u64 (ibits .or .u64 n4_2 (ishl .u64 (IntKind.u64.wrap (ibits .and .u8 t16_6 127)) (IntKind.i64.wrap (7 * t10_3)))) : Value) w_4 rfl rfl rfl (by kernel_rfl) ?_
    refine y_nil ?_
    refine y_then (hK16 _ _ ?_)
    refine y_seq fun K18 hK18 => ?_
    refine y_seq fun K19 hK19 => ?_
    refine y_region ?_
    refine y_k (.int .u8 t16_6 : Value) w_4 rfl rfl rfl (by kernel_rfl) ?_
    refine y_k (.bool (decide (t16_6 ≥ 128)) : Value) w_4 rfl rfl rfl (by kernel_rfl) ?_
    refine y_nil ?_
    refine y_then (hK19 _ _ ?_)
    refine y_cond (decide (t16_6 ≥ 128)) rfl rfl (fun hb33 => ?_) (fun hb33 => ?_)
    · replace h := h.1 (of_decide_eq_true hb33)
      refine y_exit ?_
      repeat (first | refine e_then_x ?_ | refine e_block_y rfl ?_)
      refine e_block_x ?_
      refine y_then (hK10 _ _ ?_)
      refine y_region ?_
      refine y_k (.int .i64 (IntKind.i64.wrap (t10_3 + 1)) : Value) w_4 rfl rfl rfl (by kernel_rfl) ?_
      refine y_k (.int .i64 (IntKind.i64.wrap (t10_3 + 1)) : Value) w_4 rfl rfl rfl (by kernel_rfl) ?_
      refine y_nil ?_
      refine y_then (hN7 (ibits .or .u64 n4_2 (ishl .u64 (IntKind.u64.wrap (ibits .and .u8 t16_6 127)) (IntKind.i64.wrap (7 * t10_3))), IntKind.i64.wrap (t10_3 + 1)) _ _ h ?_)
      dsimp only
      refine upd_id ?_ rfl
      refine upd_id ?_ rfl
      refine upd_id ?_ rfl
      refine upd_id ?_ rfl
      rfl
    · replace h := h.2 (of_decide_eq_false hb33)
      refine y_skip ?_
      refine y_then (hK18 _ _ ?_)
      refine y_seq fun K20 hK20 => ?_
      refine y_seq fun K21 hK21 => ?_
      refine y_region ?_
      refine y_k (.int .i64 t10_3 : Value) w_4 rfl rfl rfl (by kernel_rfl) ?_
      refine y_k (.bool (decide (t10_3 > 0)) : Value) w_4 rfl rfl rfl (by kernel_rfl) ?_
      refine y_k (.bool (decide (t10_3 > 0)) : Value) w_4 rfl rfl rfl (by kernel_rfl) ?_
      refine y_fork (decide (t10_3 > 0)) (fun hb22 => ?_) (fun hb22 => ?_)
      · replace h := h.1 (of_decide_eq_true hb22)
        refine y_frame (upd_id (i := 29) (v := .bool true) rfl (congrArg Value.bool hb22)) ?_
        refine y_gyes rfl rfl rfl ?_
        refine y_k (.int .u8 t16_6 : Value) w_4 rfl rfl rfl (by kernel_rfl) ?_
        refine y_gyes rfl rfl rfl ?_
        refine y_k (.bool ((t16_6 == 0)) : Value) w_4 rfl rfl rfl (by kernel_rfl) ?_
        refine y_k (.bool ((t16_6 == 0)) : Value) w_4 rfl rfl rfl (by kernel_rfl) ?_
        refine y_k (.bool ((t16_6 == 0)) : Value) w_4 rfl rfl rfl (by kernel_rfl) ?_
        refine y_fork ((t16_6 == 0)) (fun hb23 => ?_) (fun hb23 => ?_)
        · replace h := h.1 (eq_of_beq hb23)
          refine y_frame (upd_id (i := 33) (v := .bool true) rfl (congrArg Value.bool hb23)) ?_
          refine y_gno rfl rfl rfl rfl ?_
          refine y_gno rfl rfl rfl rfl ?_
          refine y_gno rfl rfl rfl rfl ?_
          refine y_gud rfl rfl rfl rfl ?_
          refine y_gud rfl rfl rfl rfl ?_
          refine y_gno rfl rfl rfl rfl ?_
          refine y_k (.bool true : Value) w_4 rfl rfl rfl (by kernel_rfl) ?_
          refine y_nil ?_
          refine y_then (hK21 _ _ ?_)
          refine y_cond_t rfl rfl ?_
          refine y_exit ?_
          repeat (first | refine e_then_x ?_ | refine e_block_y rfl ?_)
          refine e_block_x ?_
          exact y_then (hjK3 _ w_4 h)
        · replace h := h.2 (beq_eq_false_iff_ne.mp hb23)
          refine y_frame (upd_id (i := 33) (v := .bool false) rfl (congrArg Value.bool hb23)) ?_
          refine y_gyes rfl rfl rfl ?_
          refine y_k (.int .i64 t10_3 : Value) w_4 rfl rfl rfl (by kernel_rfl) ?_
          refine y_gyes rfl rfl rfl ?_
          refine y_k (.bool ((t10_3 == 9)) : Value) w_4 rfl rfl rfl (by kernel_rfl) ?_
          refine y_gyes rfl rfl rfl ?_
          refine y_k (.bool ((t10_3 == 9)) : Value) w_4 rfl rfl rfl (by kernel_rfl) ?_
          refine y_fork ((t10_3 == 9)) (fun hb25 => ?_) (fun hb25 => ?_)
          · replace h := h.1 (eq_of_beq hb25)
            refine y_frame (upd_id (i := 36) (v := .bool true) rfl (congrArg Value.bool hb25)) ?_
            refine y_gyes rfl rfl rfl ?_
            refine y_k (.int .u8 t16_6 : Value) w_4 rfl rfl rfl (by kernel_rfl) ?_
            refine y_gyes rfl rfl rfl ?_
            refine y_k (.bool (decide (t16_6 > 1)) : Value) w_4 rfl rfl rfl (by kernel_rfl) ?_
            refine y_gyes rfl rfl rfl ?_
            refine y_k (.bool (decide (t16_6 > 1)) : Value) w_4 rfl rfl rfl (by kernel_rfl) ?_
            refine y_k (.bool (decide (t16_6 > 1)) : Value) w_4 rfl rfl rfl (by kernel_rfl) ?_
            refine y_nil ?_
            refine y_then (hK21 _ _ ?_)
            refine y_cond (decide (t16_6 > 1)) rfl rfl (fun hb27 => ?_) (fun hb27 => ?_)
            · replace h := h.1 (of_decide_eq_true hb27)
              refine y_exit ?_
              repeat (first | refine e_then_x ?_ | refine e_block_y rfl ?_)
              refine e_block_x ?_
              exact y_then (hjK3 _ w_4 h)
            · replace h := h.2 (of_decide_eq_false hb27)
              refine y_skip ?_
              refine y_then (hK20 _ _ ?_)
              refine y_seq fun K26 hK26 => ?_
              refine y_region ?_
              refine y_k (.int .u64 (ibits .or .u64 n4_2 (ishl .u64 (IntKind.u64.wrap (ibits .and .u8 t16_6 127)) (IntKind.i64.wrap (7 * t10_3)))) : Value) w_4 rfl rfl rfl (by kernel_rfl) ?_
              refine y_k (.int .i64 t10_3 : Value) w_4 rfl rfl rfl (by kernel_rfl) ?_
              refine y_k (.int .i64 (IntKind.i64.wrap (t10_3 + 1)) : Value) w_4 rfl rfl rfl (by kernel_rfl) ?_
              refine y_k (.int .u64 (ibits .or .u64 n4_2 (ishl .u64 (IntKind.u64.wrap (ibits .and .u8 t16_6 127)) (IntKind.i64.wrap (7 * t10_3)))) : Value) w_4 rfl rfl rfl (by kernel_rfl) ?_
              refine y_k (.int .i64 (IntKind.i64.wrap (t10_3 + 1)) : Value) w_4 rfl rfl rfl (by kernel_rfl) ?_
              refine y_nil ?_
              refine y_then (hK26 _ _ ?_)
              refine y_ret ?_
              repeat (first | refine e_then_r ?_ | refine e_block_r ?_)
              exact (hQ0 _ _ _ (res2 (v1 := (.int .u64 (ibits .or .u64 n4_2 (ishl .u64 (IntKind.u64.wrap (ibits .and .u8 t16_6 127)) (IntKind.i64.wrap (7 * t10_3)))) : Value)) (v2 := (.int .i64 (IntKind.i64.wrap (t10_3 + 1)) : Value)) rfl rfl rfl rfl) ⟨_, _, rfl, h⟩).1
          · replace h := h.2 (beq_eq_false_iff_ne.mp hb25)
            refine y_frame (upd_id (i := 36) (v := .bool false) rfl (congrArg Value.bool hb25)) ?_
            refine y_gno rfl rfl rfl rfl ?_
            refine y_gno rfl rfl rfl rfl ?_
            refine y_gyes rfl rfl rfl ?_
            refine y_k (.bool false : Value) w_4 rfl rfl rfl (by kernel_rfl) ?_
            refine y_k (.bool false : Value) w_4 rfl rfl rfl (by kernel_rfl) ?_
            refine y_nil ?_
            refine y_then (hK21 _ _ ?_)
            refine y_cond_f rfl rfl ?_
            refine y_skip ?_
            refine y_then (hK20 _ _ ?_)
            refine y_seq fun K28 hK28 => ?_
            refine y_region ?_
            refine y_k (.int .u64 (ibits .or .u64 n4_2 (ishl .u64 (IntKind.u64.wrap (ibits .and .u8 t16_6 127)) (IntKind.i64.wrap (7 * t10_3)))) : Value) w_4 rfl rfl rfl (by kernel_rfl) ?_
            refine y_k (.int .i64 t10_3 : Value) w_4 rfl rfl rfl (by kernel_rfl) ?_
            refine y_k (.int .i64 (IntKind.i64.wrap (t10_3 + 1)) : Value) w_4 rfl rfl rfl (by kernel_rfl) ?_
            refine y_k (.int .u64 (ibits .or .u64 n4_2 (ishl .u64 (IntKind.u64.wrap (ibits .and .u8 t16_6 127)) (IntKind.i64.wrap (7 * t10_3)))) : Value) w_4 rfl rfl rfl (by kernel_rfl) ?_
            refine y_k (.int .i64 (IntKind.i64.wrap (t10_3 + 1)) : Value) w_4 rfl rfl rfl (by kernel_rfl) ?_
            refine y_nil ?_
            refine y_then (hK28 _ _ ?_)
            refine y_ret ?_
            repeat (first | refine e_then_r ?_ | refine e_block_r ?_)
            exact (hQ0 _ _ _ (res2 (v1 := (.int .u64 (ibits .or .u64 n4_2 (ishl .u64 (IntKind.u64.wrap (ibits .and .u8 t16_6 127)) (IntKind.i64.wrap (7 * t10_3)))) : Value)) (v2 := (.int .i64 (IntKind.i64.wrap (t10_3 + 1)) : Value)) rfl rfl rfl rfl) ⟨_, _, rfl, h⟩).1
      · replace h := h.2 (of_decide_eq_false hb22)
        refine y_frame (upd_id (i := 29) (v := .bool false) rfl (congrArg Value.bool hb22)) ?_
        refine y_gno rfl rfl rfl rfl ?_
        refine y_gno rfl rfl rfl rfl ?_
        refine y_k (.bool false : Value) w_4 rfl rfl rfl (by kernel_rfl) ?_
        refine y_k (.bool false : Value) w_4 rfl rfl rfl (by kernel_rfl) ?_
        refine y_gyes rfl rfl rfl ?_
        refine y_k (.int .i64 t10_3 : Value) w_4 rfl rfl rfl (by kernel_rfl) ?_
        refine y_gyes rfl rfl rfl ?_
        refine y_k (.bool ((t10_3 == 9)) : Value) w_4 rfl rfl rfl (by kernel_rfl) ?_
        refine y_gyes rfl rfl rfl ?_
        refine y_k (.bool ((t10_3 == 9)) : Value) w_4 rfl rfl rfl (by kernel_rfl) ?_
        refine y_fork ((t10_3 == 9)) (fun hb29 => ?_) (fun hb29 => ?_)
        · replace h := h.1 (eq_of_beq hb29)
          refine y_frame (upd_id (i := 36) (v := .bool true) rfl (congrArg Value.bool hb29)) ?_
          refine y_gyes rfl rfl rfl ?_
          refine y_k (.int .u8 t16_6 : Value) w_4 rfl rfl rfl (by kernel_rfl) ?_
          refine y_gyes rfl rfl rfl ?_
          refine y_k (.bool (decide (t16_6 > 1)) : Value) w_4 rfl rfl rfl (by kernel_rfl) ?_
          refine y_gyes rfl rfl rfl ?_
          refine y_k (.bool (decide (t16_6 > 1)) : Value) w_4 rfl rfl rfl (by kernel_rfl) ?_
          refine y_k (.bool (decide (t16_6 > 1)) : Value) w_4 rfl rfl rfl (by kernel_rfl) ?_
          refine y_nil ?_
          refine y_then (hK21 _ _ ?_)
          refine y_cond (decide (t16_6 > 1)) rfl rfl (fun hb31 => ?_) (fun hb31 => ?_)
          · replace h := h.1 (of_decide_eq_true hb31)
            refine y_exit ?_
            repeat (first | refine e_then_x ?_ | refine e_block_y rfl ?_)
            refine e_block_x ?_
            exact y_then (hjK3 _ w_4 h)
          · replace h := h.2 (of_decide_eq_false hb31)
            refine y_skip ?_
            refine y_then (hK20 _ _ ?_)
            refine y_seq fun K30 hK30 => ?_
            refine y_region ?_
            refine y_k (.int .u64 (ibits .or .u64 n4_2 (ishl .u64 (IntKind.u64.wrap (ibits .and .u8 t16_6 127)) (IntKind.i64.wrap (7 * t10_3)))) : Value) w_4 rfl rfl rfl (by kernel_rfl) ?_
            refine y_k (.int .i64 t10_3 : Value) w_4 rfl rfl rfl (by kernel_rfl) ?_
            refine y_k (.int .i64 (IntKind.i64.wrap (t10_3 + 1)) : Value) w_4 rfl rfl rfl (by kernel_rfl) ?_
            refine y_k (.int .u64 (ibits .or .u64 n4_2 (ishl .u64 (IntKind.u64.wrap (ibits .and .u8 t16_6 127)) (IntKind.i64.wrap (7 * t10_3)))) : Value) w_4 rfl rfl rfl (by kernel_rfl) ?_
            refine y_k (.int .i64 (IntKind.i64.wrap (t10_3 + 1)) : Value) w_4 rfl rfl rfl (by kernel_rfl) ?_
            refine y_nil ?_
            refine y_then (hK30 _ _ ?_)
            refine y_ret ?_
            repeat (first | refine e_then_r ?_ | refine e_block_r ?_)
            exact (hQ0 _ _ _ (res2 (v1 := (.int .u64 (ibits .or .u64 n4_2 (ishl .u64 (IntKind.u64.wrap (ibits .and .u8 t16_6 127)) (IntKind.i64.wrap (7 * t10_3)))) : Value)) (v2 := (.int .i64 (IntKind.i64.wrap (t10_3 + 1)) : Value)) rfl rfl rfl rfl) ⟨_, _, rfl, h⟩).1
        · replace h := h.2 (beq_eq_false_iff_ne.mp hb29)
          refine y_frame (upd_id (i := 36) (v := .bool false) rfl (congrArg Value.bool hb29)) ?_
          refine y_gno rfl rfl rfl rfl ?_
          refine y_gno rfl rfl rfl rfl ?_
          refine y_gyes rfl rfl rfl ?_
          refine y_k (.bool false : Value) w_4 rfl rfl rfl (by kernel_rfl) ?_
          refine y_k (.bool false : Value) w_4 rfl rfl rfl (by kernel_rfl) ?_
          refine y_nil ?_
          refine y_then (hK21 _ _ ?_)
          refine y_cond_f rfl rfl ?_
          refine y_skip ?_
          refine y_then (hK20 _ _ ?_)
          refine y_seq fun K32 hK32 => ?_
          refine y_region ?_
          refine y_k (.int .u64 (ibits .or .u64 n4_2 (ishl .u64 (IntKind.u64.wrap (ibits .and .u8 t16_6 127)) (IntKind.i64.wrap (7 * t10_3)))) : Value) w_4 rfl rfl rfl (by kernel_rfl) ?_
          refine y_k (.int .i64 t10_3 : Value) w_4 rfl rfl rfl (by kernel_rfl) ?_
          refine y_k (.int .i64 (IntKind.i64.wrap (t10_3 + 1)) : Value) w_4 rfl rfl rfl (by kernel_rfl) ?_
          refine y_k (.int .u64 (ibits .or .u64 n4_2 (ishl .u64 (IntKind.u64.wrap (ibits .and .u8 t16_6 127)) (IntKind.i64.wrap (7 * t10_3)))) : Value) w_4 rfl rfl rfl (by kernel_rfl) ?_
          refine y_k (.int .i64 (IntKind.i64.wrap (t10_3 + 1)) : Value) w_4 rfl rfl rfl (by kernel_rfl) ?_
          refine y_nil ?_
          refine y_then (hK32 _ _ ?_)
          refine y_ret ?_
          repeat (first | refine e_then_r ?_ | refine e_block_r ?_)
          exact (hQ0 _ _ _ (res2 (v1 := (.int .u64 (ibits .or .u64 n4_2 (ishl .u64 (IntKind.u64.wrap (ibits .and .u8 t16_6 127)) (IntKind.i64.wrap (7 * t10_3)))) : Value)) (v2 := (.int .i64 (IntKind.i64.wrap (t10_3 + 1)) : Value)) rfl rfl rfl rfl) ⟨_, _, rfl, h⟩).1
  · replace h := h.2 (of_decide_eq_false hb34)
    refine y_exit ?_
    repeat (first | refine e_then_x ?_ | refine e_block_y rfl ?_)
    refine e_block_x ?_
    exact y_then (hjK3 _ w_4 h)

def F72_l1 (b0_1 : Sl) (K : Int → Int → World → Prop) (next6 : (Int × Int) → World → Prop) : (Int × Int) → World → Prop := fun (n4_2, i5_3) w_4 =>
  ((i5_3 < 10 →
  ((i5_3 < ((b0_1.n : Int)) →
  (0 : Int) ≤ i5_3 ∧ i5_3 < (b0_1.n : Int) ∧ ∃ (a_5 : Addr), b0_1.a = some a_5 ∧
  ∃ (t20_6 : Int), w_4.cell? (a_5.add (Int.toNat i5_3)) = some (.int .u8 t20_6) ∧
  ((i5_3 = 9 →
  (((IntKind.u64.wrap t20_6) > 1 →
  K 0 0 w_4) ∧
  (¬ ((IntKind.u64.wrap t20_6) > 1) →
  (0 : Int) ≤ (IntKind.i64.wrap (7 * i5_3)) ∧
  (((IntKind.u64.wrap t20_6) ≥ 128 →
  next6 (IntKind.u64.wrap (n4_2 + (ishl .u64 (Int.tmod (IntKind.u64.wrap t20_6) 128) (IntKind.i64.wrap (7 * i5_3)))), IntKind.i64.wrap (i5_3 + 1)) w_4) ∧
  (¬ ((IntKind.u64.wrap t20_6) ≥ 128) →
  ((((IntKind.u64.wrap t20_6)) = 0 →
  ((i5_3 > 0 →
  K 0 0 w_4) ∧
  (¬ (i5_3 > 0) →
  K (IntKind.u64.wrap (n4_2 + (ishl .u64 (Int.tmod (IntKind.u64.wrap t20_6) 128) (IntKind.i64.wrap (7 * i5_3))))) (IntKind.i64.wrap (i5_3 + 1)) w_4))) ∧
  (¬ ((IntKind.u64.wrap t20_6)) = 0 →
  K (IntKind.u64.wrap (n4_2 + (ishl .u64 (Int.tmod (IntKind.u64.wrap t20_6) 128) (IntKind.i64.wrap (7 * i5_3))))) (IntKind.i64.wrap (i5_3 + 1)) w_4))))))) ∧
  (¬ i5_3 = 9 →
  (0 : Int) ≤ (IntKind.i64.wrap (7 * i5_3)) ∧
  (((IntKind.u64.wrap t20_6) ≥ 128 →
  next6 (IntKind.u64.wrap (n4_2 + (ishl .u64 (Int.tmod (IntKind.u64.wrap t20_6) 128) (IntKind.i64.wrap (7 * i5_3)))), IntKind.i64.wrap (i5_3 + 1)) w_4) ∧
  (¬ ((IntKind.u64.wrap t20_6) ≥ 128) →
  ((((IntKind.u64.wrap t20_6)) = 0 →
  ((i5_3 > 0 →
  K 0 0 w_4) ∧
  (¬ (i5_3 > 0) →
  K (IntKind.u64.wrap (n4_2 + (ishl .u64 (Int.tmod (IntKind.u64.wrap t20_6) 128) (IntKind.i64.wrap (7 * i5_3))))) (IntKind.i64.wrap (i5_3 + 1)) w_4))) ∧
  (¬ ((IntKind.u64.wrap t20_6)) = 0 →
  K (IntKind.u64.wrap (n4_2 + (ishl .u64 (Int.tmod (IntKind.u64.wrap t20_6) 128) (IntKind.i64.wrap (7 * i5_3))))) (IntKind.i64.wrap (i5_3 + 1)) w_4))))))) ∧
  (¬ (i5_3 < ((b0_1.n : Int))) →
  K 0 0 w_4))) ∧
  (¬ (i5_3 < 10) →
  K 0 0 w_4))
/-- turnkey/turnkeyref01.Uint -/
def F72 (b0_1 : Sl) (K : Int → Int → World → Prop) (w : World) : Prop :=
  kLoop (F72_l1 b0_1 K) (0, 0) w
set_option maxHeartbeats 4000000 in
set_option maxRecDepth 20000 in
theorem F72_sound (b0_1 : Sl) (K : Int → Int → World → Prop) (w : World) (h : F72 b0_1 K w) :
    Calls Try.prog 72 #[.slice b0_1.a b0_1.n b0_1.c] w (fun e w1 => ∃ (r0 : Int), ∃ (r1 : Int), e = .returned (.tuple #[.int .u64 r0, .int .i64 r1]) ∧ K r0 r1 w1) := by
  unfold F72 at h
  refine y_enter (n := 46) (args := [.slice b0_1.a b0_1.n b0_1.c]) Try.func72 rfl rfl rfl fun Q0 hQ0 => ?_
  refine y_seq fun K1 hK1 => ?_
  refine y_region ?_
  refine y_k (.int .u64 0 : Value) w rfl rfl rfl (by kernel_rfl) ?_
  refine y_k (.int .i64 0 : Value) w rfl rfl rfl (by kernel_rfl) ?_
  refine y_nil ?_
  refine y_then (hK1 _ _ ?_)
  refine y_seq fun K2 hK2 => ?_
  refine y_region ?_
  refine y_k (.int .u64 0 : Value) w rfl rfl rfl (by kernel_rfl) ?_
  refine y_nil ?_
  refine y_then (hK2 _ _ ?_)
  refine y_seq fun K3 hK3 => ?_
  refine y_seq fun K4 hK4 => ?_
  refine y_region ?_
  refine y_k (.int .i64 0 : Value) w rfl rfl rfl (by kernel_rfl) ?_
  refine y_nil ?_
  refine y_then (hK4 _ _ ?_)
  refine y_block ?_
  refine y_loop (S := Int × Int) (fun s j => match s with | (n4_2, i5_3) => upd (upd (upd (j) 0 (.slice b0_1.a b0_1.n b0_1.c : Value)) 4 (.int .u64 n4_2 : Value)) 5 (.int .i64 i5_3 : Value)) (0, 0) ?_ h ?_
  · dsimp only
    refine upd_id ?_ rfl
    refine upd_id ?_ rfl
    refine upd_id ?_ rfl
    rfl
  rintro KN7 next6 hN7 ⟨n4_2, i5_3⟩ j w_4 h
  unfold F72_l1 at h
  refine y_seq fun K8 hK8 => ?_
  refine y_seq fun K9 hK9 => ?_
  refine y_region ?_
  refine y_k (.int .i64 i5_3 : Value) w_4 rfl rfl rfl (by kernel_rfl) ?_
  refine y_k (.bool (decide (i5_3 < 10)) : Value) w_4 rfl rfl rfl (by kernel_rfl) ?_
  refine y_k (.bool (decide (i5_3 < 10)) : Value) w_4 rfl rfl rfl (by kernel_rfl) ?_
  refine y_fork (decide (i5_3 < 10)) (fun hb10 => ?_) (fun hb10 => ?_)
  · replace h := h.1 (of_decide_eq_true hb10)
    refine y_frame (upd_id (i := 9) (v := .bool true) rfl (congrArg Value.bool hb10)) ?_
    refine y_gyes rfl rfl rfl ?_
    refine y_k (.int .i64 i5_3 : Value) w_4 rfl rfl rfl (by kernel_rfl) ?_
    refine y_gyes rfl rfl rfl ?_
    refine y_k (.slice b0_1.a b0_1.n b0_1.c : Value) w_4 rfl rfl rfl (by kernel_rfl) ?_
    refine y_gyes rfl rfl rfl ?_
    refine y_k (.int .i64 ((b0_1.n : Int)) : Value) w_4 rfl rfl rfl (by kernel_rfl) ?_
    refine y_gyes rfl rfl rfl ?_
    refine y_k (.bool (decide (i5_3 < ((b0_1.n : Int)))) : Value) w_4 rfl rfl rfl (by kernel_rfl) ?_
    refine y_k (.bool (decide (i5_3 < ((b0_1.n : Int)))) : Value) w_4 rfl rfl rfl (by kernel_rfl) ?_
    refine y_nil ?_
    refine y_then (hK9 _ _ ?_)
    refine y_cond (decide (i5_3 < ((b0_1.n : Int)))) rfl rfl (fun hb46 => ?_) (fun hb46 => ?_)
    · replace h := h.1 (of_decide_eq_true hb46)
      refine y_skip ?_
      refine y_then (hK8 _ _ ?_)
      refine y_seq fun K11 hK11 => ?_
      refine y_block ?_
      refine y_seq fun K13 hK13 => ?_
      refine y_region ?_
      refine y_k (.slice b0_1.a b0_1.n b0_1.c : Value) w_4 rfl rfl rfl (by kernel_rfl) ?_
      refine y_k (.int .i64 i5_3 : Value) w_4 rfl rfl rfl (by kernel_rfl) ?_
      obtain ⟨hx14a, hx14b, a_5, hx14, h⟩ := h
      refine y_v (v := (.pointer (some (a_5.add (Int.toNat i5_3))) : Value)) (s := Instr.indexAt 33 (.slice b0_1.a b0_1.n b0_1.c : Value) (.int .i64 i5_3 : Value)) rfl rfl rfl (by kernel_rfl) (run_ixs1 (el := 5) (by kernel_rfl) (by kernel_rfl) hx14 hx14a hx14b) ?_
      obtain ⟨t20_6, hx15, h⟩ := h
      refine y_v (s := Instr.loadAt 5 (.pointer (some (a_5.add (Int.toNat i5_3))))) rfl rfl rfl (by kernel_rfl) (rn_load (by kernel_rfl) hx15) ?_
      refine y_k (.int .u64 (IntKind.u64.wrap t20_6) : Value) w_4 rfl rfl rfl (by kernel_rfl) ?_
      refine y_k (.int .u64 (IntKind.u64.wrap t20_6) : Value) w_4 rfl rfl rfl (by kernel_rfl) ?_
      refine y_nil ?_
      refine y_then (hK13 _ _ ?_)
      refine y_seq fun K16 hK16 => ?_
      refine y_seq fun K17 hK17 => ?_
      refine y_region ?_
      refine y_k (.int .i64 i5_3 : Value) w_4 rfl rfl rfl (by kernel_rfl) ?_
      refine y_k (.bool ((i5_3 == 9)) : Value) w_4 rfl rfl rfl (by kernel_rfl) ?_
      refine y_k (.bool ((i5_3 == 9)) : Value) w_4 rfl rfl rfl (by kernel_rfl) ?_
      refine y_fork ((i5_3 == 9)) (fun hb18 => ?_) (fun hb18 => ?_)
      · replace h := h.1 (eq_of_beq hb18)
        refine y_frame (upd_id (i := 24) (v := .bool true) rfl (congrArg Value.bool hb18)) ?_
        refine y_gyes rfl rfl rfl ?_
        refine y_k (.int .u64 (IntKind.u64.wrap t20_6) : Value) w_4 rfl rfl rfl (by kernel_rfl) ?_
        refine y_gyes rfl rfl rfl ?_
        refine y_k (.bool (decide ((IntKind.u64.wrap t20_6) > 1)) : Value) w_4 rfl rfl rfl (by kernel_rfl) ?_
        refine y_k (.bool (decide ((IntKind.u64.wrap t20_6) > 1)) : Value) w_4 rfl rfl rfl (by kernel_rfl) ?_
        refine y_nil ?_
        refine y_then (hK17 _ _ ?_)
        refine y_cond (decide ((IntKind.u64.wrap t20_6) > 1)) rfl rfl (fun hb32 => ?_) (fun hb32 => ?_)
        · replace h := h.1 (of_decide_eq_true hb32)
          refine y_seq fun K19 hK19 => ?_
          refine y_region ?_
          refine y_k (.int .u64 0 : Value) w_4 rfl rfl rfl (by kernel_rfl) ?_
          refine y_k (.int .i64 0 : Value) w_4 rfl rfl rfl (by kernel_rfl) ?_
          refine y_nil ?_
          refine y_then (hK19 _ _ ?_)
          refine y_ret ?_
          repeat (first | refine e_then_r ?_ | refine e_block_r ?_)
          exact (hQ0 _ _ _ (res2 (v1 := (.int .u64 0 : Value)) (v2 := (.int .i64 0 : Value)) rfl rfl rfl rfl) ⟨_, _, rfl, h⟩).1
        · replace h := h.2 (of_decide_eq_false hb32)
          refine y_skip ?_
          refine y_then (hK16 _ _ ?_)
          refine y_seq fun K20 hK20 => ?_
          refine y_region ?_
          refine y_k (.int .u64 n4_2 : Value) w_4 rfl rfl rfl (by kernel_rfl) ?_
          refine y_k (.int .u64 (IntKind.u64.wrap t20_6) : Value) w_4 rfl rfl rfl (by kernel_rfl) ?_
          refine y_k (.int .u64 (Int.tmod (IntKind.u64.wrap t20_6) 128) : Value) w_4 rfl rfl rfl (by kernel_rfl) ?_
          refine y_k (.int .i64 i5_3 : Value) w_4 rfl rfl rfl (by kernel_rfl) ?_
          refine y_k (.int .i64 (IntKind.i64.wrap (7 * i5_3)) : Value) w_4 rfl rfl rfl (by kernel_rfl) ?_
          obtain ⟨hx21, h⟩ := h
          refine y_k (.int .u64 (ishl .u64 (Int.tmod (IntKind.u64.wrap t20_6) 128) (IntKind.i64.wrap (7 * i5_3))) : Value) w_4 rfl rfl rfl (run_shl hx21 rfl rfl) ?_
          refine y_k (.int .u64 (IntKind.u64.wrap (n4_2 + (ishl .u64 (Int.tmod (IntKind.u64.wrap t20_6) 128) (IntKind.i64.wrap (7 * i5_3))))) : Value) w_4 rfl rfl rfl (by kernel_rfl) ?_
          refine y_k (.int .u64 (IntKind.u64.wrap (n4_2 + (ishl .u64 (Int.tmod (IntKind.u64.wrap t20_6) 128) (IntKind.i64.wrap (7 * i5_3))))) : Value) w_4 rfl rfl rfl (by kernel_rfl) ?_
          refine y_nil ?_
          refine y_then (hK20 _ _ ?_)
          refine y_seq fun K22 hK22 => ?_
          refine y_seq fun K23 hK23 => ?_
          refine y_region ?_
          refine y_k (.int .u64 (IntKind.u64.wrap t20_6) : Value) w_4 rfl rfl rfl (by kernel_rfl) ?_
          refine y_k (.bool (decide ((IntKind.u64.wrap t20_6) ≥ 128)) : Value) w_4 rfl rfl rfl (by kernel_rfl) ?_
          refine y_nil ?_
          refine y_then (hK23 _ _ ?_)
          refine y_cond (decide ((IntKind.u64.wrap t20_6) ≥ 128)) rfl rfl (fun hb31 => ?_) (fun hb31 => ?_)
          · replace h := h.1 (of_decide_eq_true hb31)
            refine y_exit ?_
            repeat (first | refine e_then_x ?_ | refine e_block_y rfl ?_)
            refine e_block_x ?_
            refine y_then (hK11 _ _ ?_)
            refine y_region ?_
            refine y_k (.int .i64 i5_3 : Value) w_4 rfl rfl rfl (by kernel_rfl) ?_
            refine y_k (.int .i64 (IntKind.i64.wrap (i5_3 + 1)) : Value) w_4 rfl rfl rfl (by kernel_rfl) ?_
            refine y_k (.int .i64 (IntKind.i64.wrap (i5_3 + 1)) : Value) w_4 rfl rfl rfl (by kernel_rfl) ?_
            refine y_nil ?_
            refine y_then (hN7 (IntKind.u64.wrap (n4_2 + (ishl .u64 (Int.tmod (IntKind.u64.wrap t20_6) 128) (IntKind.i64.wrap (7 * i5_3)))), IntKind.i64.wrap (i5_3 + 1)) _ _ h ?_)
            dsimp only
            refine upd_id ?_ rfl
            refine upd_id ?_ rfl
            refine upd_id ?_ rfl
            rfl
          · replace h := h.2 (of_decide_eq_false hb31)
            refine y_skip ?_
            refine y_then (hK22 _ _ ?_)
            refine y_seq fun K24 hK24 => ?_
            refine y_seq fun K25 hK25 => ?_
            refine y_region ?_
            refine y_k (.int .u64 (IntKind.u64.wrap t20_6) : Value) w_4 rfl rfl rfl (by kernel_rfl) ?_
            refine y_k (.bool ((((IntKind.u64.wrap t20_6)) == 0)) : Value) w_4 rfl rfl rfl (by kernel_rfl) ?_
            refine y_k (.bool ((((IntKind.u64.wrap t20_6)) == 0)) : Value) w_4 rfl rfl rfl (by kernel_rfl) ?_
            refine y_fork ((((IntKind.u64.wrap t20_6)) == 0)) (fun hb26 => ?_) (fun hb26 => ?_)
            · replace h := h.1 (eq_of_beq hb26)
              refine y_frame (upd_id (i := 39) (v := .bool true) rfl (congrArg Value.bool hb26)) ?_
              refine y_gyes rfl rfl rfl ?_
              refine y_k (.int .i64 i5_3 : Value) w_4 rfl rfl rfl (by kernel_rfl) ?_
              refine y_gyes rfl rfl rfl ?_
              refine y_k (.bool (decide (i5_3 > 0)) : Value) w_4 rfl rfl rfl (by kernel_rfl) ?_
              refine y_k (.bool (decide (i5_3 > 0)) : Value) w_4 rfl rfl rfl (by kernel_rfl) ?_
              refine y_nil ?_
              refine y_then (hK25 _ _ ?_)
              refine y_cond (decide (i5_3 > 0)) rfl rfl (fun hb29 => ?_) (fun hb29 => ?_)
              · replace h := h.1 (of_decide_eq_true hb29)
                refine y_seq fun K27 hK27 => ?_
                refine y_region ?_
                refine y_k (.int .u64 0 : Value) w_4 rfl rfl rfl (by kernel_rfl) ?_
                refine y_k (.int .i64 0 : Value) w_4 rfl rfl rfl (by kernel_rfl) ?_
                refine y_nil ?_
                refine y_then (hK27 _ _ ?_)
                refine y_ret ?_
                repeat (first | refine e_then_r ?_ | refine e_block_r ?_)
                exact (hQ0 _ _ _ (res2 (v1 := (.int .u64 0 : Value)) (v2 := (.int .i64 0 : Value)) rfl rfl rfl rfl) ⟨_, _, rfl, h⟩).1
              · replace h := h.2 (of_decide_eq_false hb29)
                refine y_skip ?_
                refine y_then (hK24 _ _ ?_)
                refine y_seq fun K28 hK28 => ?_
                refine y_region ?_
                refine y_k (.int .u64 (IntKind.u64.wrap (n4_2 + (ishl .u64 (Int.tmod (IntKind.u64.wrap t20_6) 128) (IntKind.i64.wrap (7 * i5_3))))) : Value) w_4 rfl rfl rfl (by kernel_rfl) ?_
                refine y_k (.int .i64 i5_3 : Value) w_4 rfl rfl rfl (by kernel_rfl) ?_
                refine y_k (.int .i64 (IntKind.i64.wrap (i5_3 + 1)) : Value) w_4 rfl rfl rfl (by kernel_rfl) ?_
                refine y_k (.int .u64 (IntKind.u64.wrap (n4_2 + (ishl .u64 (Int.tmod (IntKind.u64.wrap t20_6) 128) (IntKind.i64.wrap (7 * i5_3))))) : Value) w_4 rfl rfl rfl (by kernel_rfl) ?_
                refine y_k (.int .i64 (IntKind.i64.wrap (i5_3 + 1)) : Value) w_4 rfl rfl rfl (by kernel_rfl) ?_
                refine y_nil ?_
                refine y_then (hK28 _ _ ?_)
                refine y_ret ?_
                repeat (first | refine e_then_r ?_ | refine e_block_r ?_)
                exact (hQ0 _ _ _ (res2 (v1 := (.int .u64 (IntKind.u64.wrap (n4_2 + (ishl .u64 (Int.tmod (IntKind.u64.wrap t20_6) 128) (IntKind.i64.wrap (7 * i5_3))))) : Value)) (v2 := (.int .i64 (IntKind.i64.wrap (i5_3 + 1)) : Value)) rfl rfl rfl rfl) ⟨_, _, rfl, h⟩).1
            · replace h := h.2 (beq_eq_false_iff_ne.mp hb26)
              refine y_frame (upd_id (i := 39) (v := .bool false) rfl (congrArg Value.bool hb26)) ?_
              refine y_gno rfl rfl rfl rfl ?_
              refine y_gno rfl rfl rfl rfl ?_
              refine y_k (.bool false : Value) w_4 rfl rfl rfl (by kernel_rfl) ?_
              refine y_nil ?_
              refine y_then (hK25 _ _ ?_)
              refine y_cond_f rfl rfl ?_
              refine y_skip ?_
              refine y_then (hK24 _ _ ?_)
              refine y_seq fun K30 hK30 => ?_
              refine y_region ?_
              refine y_k (.int .u64 (IntKind.u64.wrap (n4_2 + (ishl .u64 (Int.tmod (IntKind.u64.wrap t20_6) 128) (IntKind.i64.wrap (7 * i5_3))))) : Value) w_4 rfl rfl rfl (by kernel_rfl) ?_
              refine y_k (.int .i64 i5_3 : Value) w_4 rfl rfl rfl (by kernel_rfl) ?_
              refine y_k (.int .i64 (IntKind.i64.wrap (i5_3 + 1)) : Value) w_4 rfl rfl rfl (by kernel_rfl) ?_
              refine y_k (.int .u64 (IntKind.u64.wrap (n4_2 + (ishl .u64 (Int.tmod (IntKind.u64.wrap t20_6) 128) (IntKind.i64.wrap (7 * i5_3))))) : Value) w_4 rfl rfl rfl (by kernel_rfl) ?_
              refine y_k (.int .i64 (IntKind.i64.wrap (i5_3 + 1)) : Value) w_4 rfl rfl rfl (by kernel_rfl) ?_
              refine y_nil ?_
              refine y_then (hK30 _ _ ?_)
              refine y_ret ?_
              repeat (first | refine e_then_r ?_ | refine e_block_r ?_)
              exact (hQ0 _ _ _ (res2 (v1 := (.int .u64 (IntKind.u64.wrap (n4_2 + (ishl .u64 (Int.tmod (IntKind.u64.wrap t20_6) 128) (IntKind.i64.wrap (7 * i5_3))))) : Value)) (v2 := (.int .i64 (IntKind.i64.wrap (i5_3 + 1)) : Value)) rfl rfl rfl rfl) ⟨_, _, rfl, h⟩).1
      · replace h := h.2 (beq_eq_false_iff_ne.mp hb18)
        refine y_frame (upd_id (i := 24) (v := .bool false) rfl (congrArg Value.bool hb18)) ?_
        refine y_gno rfl rfl rfl rfl ?_
        refine y_gno rfl rfl rfl rfl ?_
        refine y_k (.bool false : Value) w_4 rfl rfl rfl (by kernel_rfl) ?_
        refine y_nil ?_
        refine y_then (hK17 _ _ ?_)
        refine y_cond_f rfl rfl ?_
        refine y_skip ?_
        refine y_then (hK16 _ _ ?_)
        refine y_seq fun K33 hK33 => ?_
        refine y_region ?_
        refine y_k (.int .u64 n4_2 : Value) w_4 rfl rfl rfl (by kernel_rfl) ?_
        refine y_k (.int .u64 (IntKind.u64.wrap t20_6) : Value) w_4 rfl rfl rfl (by kernel_rfl) ?_
        refine y_k (.int .u64 (Int.tmod (IntKind.u64.wrap t20_6) 128) : Value) w_4 rfl rfl rfl (by kernel_rfl) ?_
        refine y_k (.int .i64 i5_3 : Value) w_4 rfl rfl rfl (by kernel_rfl) ?_
        refine y_k (.int .i64 (IntKind.i64.wrap (7 * i5_3)) : Value) w_4 rfl rfl rfl (by kernel_rfl) ?_
        obtain ⟨hx34, h⟩ := h
        refine y_k (.int .u64 (ishl .u64 (Int.tmod (IntKind.u64.wrap t20_6) 128) (IntKind.i64.wrap (7 * i5_3))) : Value) w_4 rfl rfl rfl (run_shl hx34 rfl rfl) ?_
        refine y_k (.int .u64 (IntKind.u64.wrap (n4_2 + (ishl .u64 (Int.tmod (IntKind.u64.wrap t20_6) 128) (IntKind.i64.wrap (7 * i5_3))))) : Value) w_4 rfl rfl rfl (by kernel_rfl) ?_
        refine y_k (.int .u64 (IntKind.u64.wrap (n4_2 + (ishl .u64 (Int.tmod (IntKind.u64.wrap t20_6) 128) (IntKind.i64.wrap (7 * i5_3))))) : Value) w_4 rfl rfl rfl (by kernel_rfl) ?_
        refine y_nil ?_
        refine y_then (hK33 _ _ ?_)
        refine y_seq fun K35 hK35 => ?_
        refine y_seq fun K36 hK36 => ?_
        refine y_region ?_
        refine y_k (.int .u64 (IntKind.u64.wrap t20_6) : Value) w_4 rfl rfl rfl (by kernel_rfl) ?_
        refine y_k (.bool (decide ((IntKind.u64.wrap t20_6) ≥ 128)) : Value) w_4 rfl rfl rfl (by kernel_rfl) ?_
        refine y_nil ?_
        refine y_then (hK36 _ _ ?_)
        refine y_cond (decide ((IntKind.u64.wrap t20_6) ≥ 128)) rfl rfl (fun hb44 => ?_) (fun hb44 => ?_)
        · replace h := h.1 (of_decide_eq_true hb44)
          refine y_exit ?_
          repeat (first | refine e_then_x ?_ | refine e_block_y rfl ?_)
          refine e_block_x ?_
          refine y_then (hK11 _ _ ?_)
          refine y_region ?_
          refine y_k (.int .i64 i5_3 : Value) w_4 rfl rfl rfl (by kernel_rfl) ?_
          refine y_k (.int .i64 (IntKind.i64.wrap (i5_3 + 1)) : Value) w_4 rfl rfl rfl (by kernel_rfl) ?_
          refine y_k (.int .i64 (IntKind.i64.wrap (i5_3 + 1)) : Value) w_4 rfl rfl rfl (by kernel_rfl) ?_
          refine y_nil ?_
          refine y_then (hN7 (IntKind.u64.wrap (n4_2 + (ishl .u64 (Int.tmod (IntKind.u64.wrap t20_6) 128) (IntKind.i64.wrap (7 * i5_3)))), IntKind.i64.wrap (i5_3 + 1)) _ _ h ?_)
          dsimp only
          refine upd_id ?_ rfl
          refine upd_id ?_ rfl
          refine upd_id ?_ rfl
          rfl
        · replace h := h.2 (of_decide_eq_false hb44)
          refine y_skip ?_
          refine y_then (hK35 _ _ ?_)
          refine y_seq fun K37 hK37 => ?_
          refine y_seq fun K38 hK38 => ?_
          refine y_region ?_
          refine y_k (.int .u64 (IntKind.u64.wrap t20_6) : Value) w_4 rfl rfl rfl (by kernel_rfl) ?_
          refine y_k (.bool ((((IntKind.u64.wrap t20_6)) == 0)) : Value) w_4 rfl rfl rfl (by kernel_rfl) ?_
          refine y_k (.bool ((((IntKind.u64.wrap t20_6)) == 0)) : Value) w_4 rfl rfl rfl (by kernel_rfl) ?_
          refine y_fork ((((IntKind.u64.wrap t20_6)) == 0)) (fun hb39 => ?_) (fun hb39 => ?_)
          · replace h := h.1 (eq_of_beq hb39)
            refine y_frame (upd_id (i := 39) (v := .bool true) rfl (congrArg Value.bool hb39)) ?_
            refine y_gyes rfl rfl rfl ?_
            refine y_k (.int .i64 i5_3 : Value) w_4 rfl rfl rfl (by kernel_rfl) ?_
            refine y_gyes rfl rfl rfl ?_
            refine y_k (.bool (decide (i5_3 > 0)) : Value) w_4 rfl rfl rfl (by kernel_rfl) ?_
            refine y_k (.bool (decide (i5_3 > 0)) : Value) w_4 rfl rfl rfl (by kernel_rfl) ?_
            refine y_nil ?_
            refine y_then (hK38 _ _ ?_)
            refine y_cond (decide (i5_3 > 0)) rfl rfl (fun hb42 => ?_) (fun hb42 => ?_)
            · replace h := h.1 (of_decide_eq_true hb42)
              refine y_seq fun K40 hK40 => ?_
              refine y_region ?_
              refine y_k (.int .u64 0 : Value) w_4 rfl rfl rfl (by kernel_rfl) ?_
              refine y_k (.int .i64 0 : Value) w_4 rfl rfl rfl (by kernel_rfl) ?_
              refine y_nil ?_
              refine y_then (hK40 _ _ ?_)
              refine y_ret ?_
              repeat (first | refine e_then_r ?_ | refine e_block_r ?_)
              exact (hQ0 _ _ _ (res2 (v1 := (.int .u64 0 : Value)) (v2 := (.int .i64 0 : Value)) rfl rfl rfl rfl) ⟨_, _, rfl, h⟩).1
            · replace h := h.2 (of_decide_eq_false hb42)
              refine y_skip ?_
              refine y_then (hK37 _ _ ?_)
              refine y_seq fun K41 hK41 => ?_
              refine y_region ?_
              refine y_k (.int .u64 (IntKind.u64.wrap (n4_2 + (ishl .u64 (Int.tmod (IntKind.u64.wrap t20_6) 128) (IntKind.i64.wrap (7 * i5_3))))) : Value) w_4 rfl rfl rfl (by kernel_rfl) ?_
              refine y_k (.int .i64 i5_3 : Value) w_4 rfl rfl rfl (by kernel_rfl) ?_
              refine y_k (.int .i64 (IntKind.i64.wrap (i5_3 + 1)) : Value) w_4 rfl rfl rfl (by kernel_rfl) ?_
              refine y_k (.int .u64 (IntKind.u64.wrap (n4_2 + (ishl .u64 (Int.tmod (IntKind.u64.wrap t20_6) 128) (IntKind.i64.wrap (7 * i5_3))))) : Value) w_4 rfl rfl rfl (by kernel_rfl) ?_
              refine y_k (.int .i64 (IntKind.i64.wrap (i5_3 + 1)) : Value) w_4 rfl rfl rfl (by kernel_rfl) ?_
              refine y_nil ?_
              refine y_then (hK41 _ _ ?_)
              refine y_ret ?_
              repeat (first | refine e_then_r ?_ | refine e_block_r ?_)
              exact (hQ0 _ _ _ (res2 (v1 := (.int .u64 (IntKind.u64.wrap (n4_2 + (ishl .u64 (Int.tmod (IntKind.u64.wrap t20_6) 128) (IntKind.i64.wrap (7 * i5_3))))) : Value)) (v2 := (.int .i64 (IntKind.i64.wrap (i5_3 + 1)) : Value)) rfl rfl rfl rfl) ⟨_, _, rfl, h⟩).1
          · replace h := h.2 (beq_eq_false_iff_ne.mp hb39)
            refine y_frame (upd_id (i := 39) (v := .bool false) rfl (congrArg Value.bool hb39)) ?_
            refine y_gno rfl rfl rfl rfl ?_
            refine y_gno rfl rfl rfl rfl ?_
            refine y_k (.bool false : Value) w_4 rfl rfl rfl (by kernel_rfl) ?_
            refine y_nil ?_
            refine y_then (hK38 _ _ ?_)
            refine y_cond_f rfl rfl ?_
            refine y_skip ?_
            refine y_then (hK37 _ _ ?_)
            refine y_seq fun K43 hK43 => ?_
            refine y_region ?_
            refine y_k (.int .u64 (IntKind.u64.wrap (n4_2 + (ishl .u64 (Int.tmod (IntKind.u64.wrap t20_6) 128) (IntKind.i64.wrap (7 * i5_3))))) : Value) w_4 rfl rfl rfl (by kernel_rfl) ?_
            refine y_k (.int .i64 i5_3 : Value) w_4 rfl rfl rfl (by kernel_rfl) ?_
            refine y_k (.int .i64 (IntKind.i64.wrap (i5_3 + 1)) : Value) w_4 rfl rfl rfl (by kernel_rfl) ?_
            refine y_k (.int .u64 (IntKind.u64.wrap (n4_2 + (ishl .u64 (Int.tmod (IntKind.u64.wrap t20_6) 128) (IntKind.i64.wrap (7 * i5_3))))) : Value) w_4 rfl rfl rfl (by kernel_rfl) ?_
            refine y_k (.int .i64 (IntKind.i64.wrap (i5_3 + 1)) : Value) w_4 rfl rfl rfl (by kernel_rfl) ?_
            refine y_nil ?_
            refine y_then (hK43 _ _ ?_)
            refine y_ret ?_
            repeat (first | refine e_then_r ?_ | refine e_block_r ?_)
            exact (hQ0 _ _ _ (res2 (v1 := (.int .u64 (IntKind.u64.wrap (n4_2 + (ishl .u64 (Int.tmod (IntKind.u64.wrap t20_6) 128) (IntKind.i64.wrap (7 * i5_3))))) : Value)) (v2 := (.int .i64 (IntKind.i64.wrap (i5_3 + 1)) : Value)) rfl rfl rfl rfl) ⟨_, _, rfl, h⟩).1
    · replace h := h.2 (of_decide_eq_false hb46)
      refine y_exit ?_
      repeat (first | refine e_then_x ?_ | refine e_block_y rfl ?_)
      refine e_block_x ?_
      refine y_then (hK3 _ _ ?_)
      refine y_seq fun K45 hK45 => ?_
      refine y_region ?_
      refine y_k (.int .u64 0 : Value) w_4 rfl rfl rfl (by kernel_rfl) ?_
      refine y_k (.int .i64 0 : Value) w_4 rfl rfl rfl (by kernel_rfl) ?_
      refine y_nil ?_
      refine y_then (hK45 _ _ ?_)
      refine y_ret ?_
      repeat (first | refine e_then_r ?_ | refine e_block_r ?_)
      exact (hQ0 _ _ _ (res2 (v1 := (.int .u64 0 : Value)) (v2 := (.int .i64 0 : Value)) rfl rfl rfl rfl) ⟨_, _, rfl, h⟩).1
  · replace h := h.2 (of_decide_eq_false hb10)
    refine y_frame (upd_id (i := 9) (v := .bool false) rfl (congrArg Value.bool hb10)) ?_
    refine y_gno rfl rfl rfl rfl ?_
    refine y_gno rfl rfl rfl rfl ?_
    refine y_gno rfl rfl rfl rfl ?_
    refine y_gno rfl rfl rfl rfl ?_
    refine y_k (.bool false : Value) w_4 rfl rfl rfl (by kernel_rfl) ?_
    refine y_nil ?_
    refine y_then (hK9 _ _ ?_)
    refine y_cond_f rfl rfl ?_
    refine y_exit ?_
    repeat (first | refine e_then_x ?_ | refine e_block_y rfl ?_)
    refine e_block_x ?_
    refine y_then (hK3 _ _ ?_)
    refine y_seq fun K47 hK47 => ?_
    refine y_region ?_
    refine y_k (.int .u64 0 : Value) w_4 rfl rfl rfl (by kernel_rfl) ?_
    refine y_k (.int .i64 0 : Value) w_4 rfl rfl rfl (by kernel_rfl) ?_
    refine y_nil ?_
    refine y_then (hK47 _ _ ?_)
    refine y_ret ?_
    repeat (first | refine e_then_r ?_ | refine e_block_r ?_)
    exact (hQ0 _ _ _ (res2 (v1 := (.int .u64 0 : Value)) (v2 := (.int .i64 0 : Value)) rfl rfl rfl rfl) ⟨_, _, rfl, h⟩).1

end Go.Proofs.Ytjgijifankaglaa
