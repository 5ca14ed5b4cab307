/- Printed by gen.py (own program, wip/): for each Go function a predicate transformer and its soundness. -/
import Derived.Test.YtjgijifankaglaaProg
import Derived.Test.YtjgijifankaglaaST
import Derived.Test.YtjgijifankaglaaSW
namespace Go.Proofs.Ytjgijifankaglaa
open Go Go.RowKit Go.Proofs.Ytjgijifankaglaa.SX
set_option linter.unusedVariables false

def F97_j3 (n4_3 : Int) (next7 : (Sl × Int) → World → Prop) (l3_9 : Sl) (w_10 : World) : Prop :=
  next7 (l3_9, IntKind.u64.wrap (n4_3 + 1)) w_10
def F97_l2 (l3_2 : Sl) (n4_3 : Int) (next7 : (Sl × Int) → World → Prop) (next16 : (Int) → World → Prop) : (Int) → World → Prop := fun (t15_5) w_6 =>
  ((t15_5 < ((l3_2.n : Int)) →
  (0 : Int) ≤ t15_5 ∧ t15_5 < (l3_2.n : Int) ∧ ∃ (a_7 : Addr), l3_2.a = some a_7 ∧
  ∃ (t18_8 : Int), w_6.cell? (a_7.add (Int.toNat t15_5)) = some (.int .u64 t18_8) ∧
  t18_8 ≠ 0 ∧
  ((((Int.tmod n4_3 t18_8)) = 0 →
  F97_j3 n4_3 next7 l3_2 w_6) ∧
  (¬ ((Int.tmod n4_3 t18_8)) = 0 →
  next16 (IntKind.i64.wrap (t15_5 + 1)) w_6))) ∧
  (¬ (t15_5 < ((l3_2.n : Int))) →
  ∀ (w_11 : World), w_11 = w_6.alloc (.cells #[.int .u64 n4_3] 87) →
  ∃ (t27_12 : Sl), ∃ (w_13 : World), (Builtin.append_ #[141, 141] 141 #[.slice l3_2.a l3_2.n l3_2.c, .slice (some ⟨w_6.heap.size, 0, none⟩) 1 1]).run Try.prog w_11 = .ok (.slice t27_12.a t27_12.n t27_12.c : Value) w_13 ∧
  F97_j3 n4_3 next7 t27_12 w_13))
def F97_l1 (many0_1 : Int) (K : Sl → World → Prop) (next7 : (Sl × Int) → World → Prop) : (Sl × Int) → World → Prop := fun (l3_2, n4_3) w_4 =>
  ((((l3_2.n : Int)) < many0_1 →
  kLoop (F97_l2 l3_2 n4_3 next7) (0) w_4) ∧
  (¬ (((l3_2.n : Int)) < many0_1) →
  K l3_2 w_4))
/-- turnkey/sum.primes -/
def F97 (many0_1 : Int) (K : Sl → World → Prop) (w : World) : Prop :=
  kLoop (F97_l1 many0_1 K) (⟨none, 0, 0⟩, 2) w
set_option maxHeartbeats 4000000 in
set_option maxRecDepth 20000 in
theorem F97_sound (many0_1 : Int) (K : Sl → World → Prop) (w : World) (h : F97 many0_1 K w) :
    Calls Try.prog 97 #[.int .i64 many0_1] w (fun e w1 => ∃ (r0 : Sl), e = .returned (.slice r0.a r0.n r0.c : Value) ∧ K r0 w1) := by
  unfold F97 at h
  refine y_enter (n := 29) (args := [.int .i64 many0_1]) Try.func97 rfl rfl rfl fun Q0 hQ0 => ?_
  refine y_seq fun K1 hK1 => ?_
  refine y_region ?_
  refine y_k (.slice none 0 0 : Value) w rfl rfl rfl (by kernel_rfl) ?_
  refine y_nil ?_
  refine y_then (hK1 _ _ ?_)
  refine y_scope ?_
  refine y_seq fun K2 hK2 => ?_
  refine y_region ?_
  refine y_k (.slice none 0 0 : Value) w rfl rfl rfl (by kernel_rfl) ?_
  refine y_nil ?_
  refine y_then (hK2 _ _ ?_)
  refine y_seq fun K3 hK3 => ?_
  refine y_label ?_
  refine y_then (hK3 _ _ ?_)
  refine y_seq fun K4 hK4 => ?_
  refine y_seq fun K5 hK5 => ?_
  refine y_region ?_
  refine y_k (.int .u64 2 : Value) w rfl rfl rfl (by kernel_rfl) ?_
  refine y_nil ?_
  refine y_then (hK5 _ _ ?_)
  refine y_block ?_
  refine y_loop (S := Sl × Int) (fun s j => match s with | (l3_2, n4_3) => upd (upd (upd (j) 0 (.int .i64 many0_1 : Value)) 3 (.slice l3_2.a l3_2.n l3_2.c : Value)) 4 (.int .u64 n4_3 : Value)) (⟨none, 0, 0⟩, 2) ?_ h ?_
  · dsimp only
    refine upd_id ?_ rfl
    refine upd_id ?_ rfl
    refine upd_id ?_ rfl
    rfl
  rintro KN8 next7 hN8 ⟨l3_2, n4_3⟩ j w_4 h
  unfold F97_l1 at h
  refine y_seq fun K9 hK9 => ?_
  refine y_seq fun K10 hK10 => ?_
  refine y_region ?_
  refine y_k (.slice l3_2.a l3_2.n l3_2.c : Value) w_4 rfl rfl rfl (by kernel_rfl) ?_
  refine y_k (.int .i64 ((l3_2.n : Int)) : Value) w_4 rfl rfl rfl (by kernel_rfl) ?_
  refine y_k (.int .i64 many0_1 : Value) w_4 rfl rfl rfl (by kernel_rfl) ?_
  refine y_k (.bool (decide (((l3_2.n : Int)) < many0_1)) : Value) w_4 rfl rfl rfl (by kernel_rfl) ?_
  refine y_nil ?_
  refine y_then (hK10 _ _ ?_)
  refine y_cond (decide (((l3_2.n : Int)) < many0_1)) rfl rfl (fun hb31 => ?_) (fun hb31 => ?_)
  · replace h := h.1 (of_decide_eq_true hb31)
    refine y_skip ?_
    refine y_then (hK9 _ _ ?_)
    refine y_seq fun K11 hK11 => ?_
    have hjK11 : ∀ (f : Fr) (l3_9 : Sl) (w_10 : World), f 0 = (.int .i64 many0_1 : Value) → f 3 = (.slice l3_9.a l3_9.n l3_9.c : Value) → f 4 = (.int .u64 n4_3 : Value) → F97_j3 n4_3 next7 l3_9 w_10 → WK K11 29 f w_10 := by
      intro f l3_9 w_10 e0 e3 e4 h
      refine y_atf (upd_id (upd_id (upd_id rfl e0) e3) e4) ?_
      clear e0 e3 e4
      unfold F97_j3 at h
      refine hK11 _ _ ?_
      refine y_region ?_
      refine y_k (.int .u64 n4_3 : Value) w_10 rfl rfl rfl (by kernel_rfl) ?_
      refine y_k (.int .u64 (IntKind.u64.wrap (n4_3 + 1)) : Value) w_10 rfl rfl rfl (by kernel_rfl) ?_
      refine y_k (.int .u64 (IntKind.u64.wrap (n4_3 + 1)) : Value) w_10 rfl rfl rfl (by kernel_rfl) ?_
      refine y_nil ?_
      refine y_then (hN8 (l3_9, IntKind.u64.wrap (n4_3 + 1)) _ _ h ?_)
      dsimp only
      refine upd_id ?_ rfl
      refine upd_id ?_ rfl
      refine upd_id ?_ rfl
      rfl
    refine y_block ?_
    refine y_seq fun K13 hK13 => ?_
    refine y_seq fun K14 hK14 => ?_
    refine y_region ?_
    refine y_k (.slice l3_2.a l3_2.n l3_2.c : Value) w_4 rfl rfl rfl (by kernel_rfl) ?_
    refine y_k (.int .i64 ((l3_2.n : Int)) : Value) w_4 rfl rfl rfl (by kernel_rfl) ?_
    refine y_k (.int .i64 0 : Value) w_4 rfl rfl rfl (by kernel_rfl) ?_
    refine y_nil ?_
    refine y_then (hK14 _ _ ?_)
    refine y_block ?_
    refine y_loop (S := Int) (fun s j => match s with | (t15_5) => upd (upd (upd (upd (upd (upd (j) 0 (.int .i64 many0_1 : Value)) 3 (.slice l3_2.a l3_2.n l3_2.c : Value)) 4 (.int .u64 n4_3 : Value)) 13 (.slice l3_2.a l3_2.n l3_2.c : Value)) 14 (.int .i64 ((l3_2.n : Int)) : Value)) 15 (.int .i64 t15_5 : Value)) (0) ?_ h ?_
    · dsimp only
      refine upd_id ?_ rfl
      refine upd_id ?_ rfl
      refine upd_id ?_ rfl
      refine upd_id ?_ rfl
      refine upd_id ?_ rfl
      refine upd_id ?_ rfl
      rfl
    rintro KN17 next16 hN17 t15_5 j w_6 h
    unfold F97_l2 at h
    refine y_seq fun K18 hK18 => ?_
    refine y_region ?_
    refine y_k (.bool (decide (t15_5 < ((l3_2.n : Int)))) : Value) w_6 rfl rfl rfl (by kernel_rfl) ?_
    refine y_nil ?_
    refine y_then (hK18 _ _ ?_)
    refine y_seq fun K19 hK19 => ?_
    refine y_cond (decide (t15_5 < ((l3_2.n : Int)))) rfl rfl (fun hb29 => ?_) (fun hb29 => ?_)
    · replace h := h.1 (of_decide_eq_true hb29)
      refine y_skip ?_
      refine y_then (hK19 _ _ ?_)
      refine y_seq fun K20 hK20 => ?_
      refine y_block ?_
      refine y_seq fun K22 hK22 => ?_
      refine y_region ?_
      obtain ⟨hx23a, hx23b, a_7, hx23, h⟩ := h
      refine y_v (v := (.pointer (some (a_7.add (Int.toNat t15_5))) : Value)) (s := Instr.indexAt 141 (.slice l3_2.a l3_2.n l3_2.c : Value) (.int .i64 t15_5 : Value)) rfl rfl rfl (by kernel_rfl) (run_ixs1 (el := 87) (by kernel_rfl) (by kernel_rfl) hx23 hx23a hx23b) ?_
      obtain ⟨t18_8, hx24, h⟩ := h
      refine y_v (s := Instr.loadAt 87 (.pointer (some (a_7.add (Int.toNat t15_5))))) rfl rfl rfl (by kernel_rfl) (rn_load (by kernel_rfl) hx24) ?_
      refine y_k (.int .u64 t18_8 : Value) w_6 rfl rfl rfl (by kernel_rfl) ?_
      refine y_nil ?_
      refine y_then (hK22 _ _ ?_)
      refine y_seq fun K25 hK25 => ?_
      refine y_region ?_
      refine y_k (.int .u64 n4_3 : Value) w_6 rfl rfl rfl (by kernel_rfl) ?_
      refine y_k (.int .u64 t18_8 : Value) w_6 rfl rfl rfl (by kernel_rfl) ?_
      obtain ⟨hx26, h⟩ := h
      refine y_k (.int .u64 (Int.tmod n4_3 t18_8) : Value) w_6 rfl rfl rfl (run_rem hx26 rfl rfl) ?_
      refine y_k (.bool ((((Int.tmod n4_3 t18_8)) == 0)) : Value) w_6 rfl rfl rfl (by kernel_rfl) ?_
      refine y_nil ?_
      refine y_then (hK25 _ _ ?_)
      refine y_cond ((((Int.tmod n4_3 t18_8)) == 0)) rfl rfl (fun hb27 => ?_) (fun hb27 => ?_)
      · replace h := h.1 (eq_of_beq hb27)
        refine y_exit ?_
        repeat (first | refine e_then_x ?_ | refine e_block_y rfl ?_ | refine e_scope_x ?_)
        refine e_block_x ?_
        exact y_then (hjK11 _ l3_2 w_6 rfl rfl rfl h)
      · replace h := h.2 (beq_eq_false_iff_ne.mp hb27)
        refine y_skip ?_
        refine e_block_n ?_
        refine y_then (hK20 _ _ ?_)
        refine y_region ?_
        refine y_k (.int .i64 (IntKind.i64.wrap (t15_5 + 1)) : Value) w_6 rfl rfl rfl (by kernel_rfl) ?_
        refine y_k (.int .i64 (IntKind.i64.wrap (t15_5 + 1)) : Value) w_6 rfl rfl rfl (by kernel_rfl) ?_
        refine y_nil ?_
        refine y_then (hN17 (IntKind.i64.wrap (t15_5 + 1)) _ _ h ?_)
        dsimp only
        refine upd_id ?_ rfl
        refine upd_id ?_ rfl
        refine upd_id ?_ rfl
        refine upd_id ?_ rfl
        refine upd_id ?_ rfl
        refine upd_id ?_ rfl
        rfl
    · replace h := h.2 (of_decide_eq_false hb29)
      refine y_exit ?_
      repeat (first | refine e_then_x ?_ | refine e_block_y rfl ?_ | refine e_scope_x ?_)
      refine e_block_x ?_
      refine y_then (hK13 _ _ ?_)
      refine y_region ?_
      refine y_k (.slice l3_2.a l3_2.n l3_2.c : Value) w_6 rfl rfl rfl (by kernel_rfl) ?_
      refine y_k (.int .u64 n4_3 : Value) w_6 rfl rfl rfl (by kernel_rfl) ?_
      refine y_k (.slice (some ⟨w_6.heap.size, 0, none⟩) 1 1 : Value) (w_6.alloc (.cells #[.int .u64 n4_3] 87)) rfl rfl rfl (by kernel_rfl) ?_
      replace h := h _ rfl
      generalize w_6.alloc (.cells #[.int .u64 n4_3] 87) = w_11 at h ⊢
      obtain ⟨t27_12, w_13, hx28, h⟩ := h
      refine y_v (s := Builtin.append_ #[141, 141] 141 #[.slice l3_2.a l3_2.n l3_2.c, .slice (some ⟨w_6.heap.size, 0, none⟩) 1 1]) rfl rfl rfl (by kernel_rfl) hx28 ?_
      refine y_k (.slice t27_12.a t27_12.n t27_12.c : Value) w_13 rfl rfl rfl (by kernel_rfl) ?_
      refine y_nil ?_
      refine e_block_n ?_
      exact y_then (hjK11 _ t27_12 w_13 rfl rfl rfl h)
  · replace h := h.2 (of_decide_eq_false hb31)
    refine y_exit ?_
    repeat (first | refine e_then_x ?_ | refine e_block_y rfl ?_ | refine e_scope_x ?_)
    refine e_block_x ?_
    refine y_then (hK4 _ _ ?_)
    refine y_seq fun K30 hK30 => ?_
    refine y_region ?_
    refine y_k (.slice l3_2.a l3_2.n l3_2.c : Value) w_4 rfl rfl rfl (by kernel_rfl) ?_
    refine y_k (.slice l3_2.a l3_2.n l3_2.c : Value) w_4 rfl rfl rfl (by kernel_rfl) ?_
    refine y_nil ?_
    refine y_then (hK30 _ _ ?_)
    refine y_ret ?_
    repeat (first | refine e_then_r ?_ | refine e_block_r ?_ | refine e_scope_r ?_)
    exact (hQ0 _ _ _ (res1 (v := (.slice l3_2.a l3_2.n l3_2.c : Value)) rfl rfl rfl) ⟨_, rfl, h⟩).1

def F98_l1 (p0_1 : Int) (degree1_2 : Int) (K : Int → World → Prop) (next5 : (Int × Int) → World → Prop) : (Int × Int) → World → Prop := fun (least5_3, most6_4) w_5 =>
  (((IntKind.u64.wrap (most6_4 - least5_3)) > 1 →
  Calls Try.prog 109 #[.int .u64 (IntKind.u64.wrap (Int.tdiv (IntKind.u64.wrap (least5_3 + most6_4)) 2)), .int .u64 p0_1, .int .i64 degree1_2] w_5 fun e w_7 => ∃ (t19_6 : Bool), e = .returned (.bool t19_6 : Value) ∧
  ((t19_6 = true →
  next5 (least5_3, IntKind.u64.wrap (Int.tdiv (IntKind.u64.wrap (least5_3 + most6_4)) 2)) w_7) ∧
  (t19_6 = false →
  next5 (IntKind.u64.wrap (Int.tdiv (IntKind.u64.wrap (least5_3 + most6_4)) 2), most6_4) w_7))) ∧
  (¬ ((IntKind.u64.wrap (most6_4 - least5_3)) > 1) →
  K (IntKind.u32.wrap least5_3) w_5))
/-- turnkey/sum.behind -/
def F98 (p0_1 : Int) (degree1_2 : Int) (K : Int → World → Prop) (w : World) : Prop :=
  kLoop (F98_l1 p0_1 degree1_2 K) (0, 137438953472) w
set_option maxHeartbeats 4000000 in
set_option maxRecDepth 20000 in
theorem F98_sound (p0_1 : Int) (degree1_2 : Int) (K : Int → World → Prop) (w : World) (h : F98 p0_1 degree1_2 K w) :
    Calls Try.prog 98 #[.int .u64 p0_1, .int .i64 degree1_2] w (fun e w1 => ∃ (r0 : Int), e = .returned (.int .u32 r0 : Value) ∧ K r0 w1) := by
  unfold F98 at h
  refine y_enter (n := 24) (args := [.int .u64 p0_1, .int .i64 degree1_2]) Try.func98 rfl rfl rfl fun Q0 hQ0 => ?_
  refine y_seq fun K1 hK1 => ?_
  refine y_region ?_
  refine y_k (.int .u32 0 : Value) w rfl rfl rfl (by kernel_rfl) ?_
  refine y_nil ?_
  refine y_then (hK1 _ _ ?_)
  refine y_seq fun K2 hK2 => ?_
  refine y_region ?_
  refine y_k (.int .u64 0 : Value) w rfl rfl rfl (by kernel_rfl) ?_
  refine y_k (.int .u64 137438953472 : Value) w rfl rfl rfl (by kernel_rfl) ?_
  refine y_nil ?_
  refine y_then (hK2 _ _ ?_)
  refine y_seq fun K3 hK3 => ?_
  refine y_block ?_
  refine y_loop (S := Int × Int) (fun s j => match s with | (least5_3, most6_4) => upd (upd (upd (upd (j) 0 (.int .u64 p0_1 : Value)) 1 (.int .i64 degree1_2 : Value)) 5 (.int .u64 least5_3 : Value)) 6 (.int .u64 most6_4 : Value)) (0, 137438953472) ?_ h ?_
  · dsimp only
    refine upd_id ?_ rfl
    refine upd_id ?_ rfl
    refine upd_id ?_ rfl
    refine upd_id ?_ rfl
    rfl
  rintro KN6 next5 hN6 ⟨least5_3, most6_4⟩ j w_5 h
  unfold F98_l1 at h
  refine y_seq fun K7 hK7 => ?_
  refine y_seq fun K8 hK8 => ?_
  refine y_region ?_
  refine y_k (.int .u64 most6_4 : Value) w_5 rfl rfl rfl (by kernel_rfl) ?_
  refine y_k (.int .u64 least5_3 : Value) w_5 rfl rfl rfl (by kernel_rfl) ?_
  refine y_k (.int .u64 (IntKind.u64.wrap (most6_4 - least5_3)) : Value) w_5 rfl rfl rfl (by kernel_rfl) ?_
  refine y_k (.bool (decide ((IntKind.u64.wrap (most6_4 - least5_3)) > 1)) : Value) w_5 rfl rfl rfl (by kernel_rfl) ?_
  refine y_nil ?_
  refine y_then (hK8 _ _ ?_)
  refine y_cond (decide ((IntKind.u64.wrap (most6_4 - least5_3)) > 1)) rfl rfl (fun hb14 => ?_) (fun hb14 => ?_)
  · replace h := h.1 (of_decide_eq_true hb14)
    refine y_skip ?_
    refine y_then (hK7 _ _ ?_)
    refine y_block ?_
    refine y_seq fun K10 hK10 => ?_
    refine y_region ?_
    refine y_k (.int .u64 least5_3 : Value) w_5 rfl rfl rfl (by kernel_rfl) ?_
    refine y_k (.int .u64 most6_4 : Value) w_5 rfl rfl rfl (by kernel_rfl) ?_
    refine y_k (.int .u64 (IntKind.u64.wrap (least5_3 + most6_4)) : Value) w_5 rfl rfl rfl (by kernel_rfl) ?_
    refine y_k (.int .u64 (IntKind.u64.wrap (Int.tdiv (IntKind.u64.wrap (least5_3 + most6_4)) 2)) : Value) w_5 rfl rfl rfl (by kernel_rfl) ?_
    refine y_k (.int .u64 (IntKind.u64.wrap (Int.tdiv (IntKind.u64.wrap (least5_3 + most6_4)) 2)) : Value) w_5 rfl rfl rfl (by kernel_rfl) ?_
    refine y_nil ?_
    refine y_then (hK10 _ _ ?_)
    refine y_seq fun K11 hK11 => ?_
    refine y_region ?_
    refine y_k (.int .u64 (IntKind.u64.wrap (Int.tdiv (IntKind.u64.wrap (least5_3 + most6_4)) 2)) : Value) w_5 rfl rfl rfl (by kernel_rfl) ?_
    refine y_k (.int .u64 p0_1 : Value) w_5 rfl rfl rfl (by kernel_rfl) ?_
    refine y_k (.int .i64 degree1_2 : Value) w_5 rfl rfl rfl (by kernel_rfl) ?_
    refine y_call rfl rfl rfl (by kernel_rfl) (h.mono ?_)
    rintro _ w_7 ⟨t19_6, rfl, h⟩
    refine ⟨_, rfl, ?_⟩
    refine y_nil ?_
    refine y_then (hK11 _ _ ?_)
    refine y_cond (t19_6) rfl rfl (fun hb12 => ?_) (fun hb12 => ?_)
    · replace h := h.1 (hb12)
      refine y_region ?_
      refine y_k (.int .u64 (IntKind.u64.wrap (Int.tdiv (IntKind.u64.wrap (least5_3 + most6_4)) 2)) : Value) w_7 rfl rfl rfl (by kernel_rfl) ?_
      refine y_k (.int .u64 (IntKind.u64.wrap (Int.tdiv (IntKind.u64.wrap (least5_3 + most6_4)) 2)) : Value) w_7 rfl rfl rfl (by kernel_rfl) ?_
      refine y_nil ?_
      refine e_block_n ?_
      refine y_then (hN6 (least5_3, IntKind.u64.wrap (Int.tdiv (IntKind.u64.wrap (least5_3 + most6_4)) 2)) _ _ h ?_)
      dsimp only
      refine upd_id ?_ rfl
      refine upd_id ?_ rfl
      refine upd_id ?_ rfl
      refine upd_id ?_ rfl
      rfl
    · replace h := h.2 (hb12)
      refine y_region ?_
      refine y_k (.int .u64 (IntKind.u64.wrap (Int.tdiv (IntKind.u64.wrap (least5_3 + most6_4)) 2)) : Value) w_7 rfl rfl rfl (by kernel_rfl) ?_
      refine y_k (.int .u64 (IntKind.u64.wrap (Int.tdiv (IntKind.u64.wrap (least5_3 + most6_4)) 2)) : Value) w_7 rfl rfl rfl (by kernel_rfl) ?_
      refine y_nil ?_
      refine e_block_n ?_
      refine y_then (hN6 (IntKind.u64.wrap (Int.tdiv (IntKind.u64.wrap (least5_3 + most6_4)) 2), most6_4) _ _ h ?_)
      dsimp only
      refine upd_id ?_ rfl
      refine upd_id ?_ rfl
      refine upd_id ?_ rfl
      refine upd_id ?_ rfl
      rfl
  · replace h := h.2 (of_decide_eq_false hb14)
    refine y_exit ?_
    repeat (first | refine e_then_x ?_ | refine e_block_y rfl ?_)
    refine e_block_x ?_
    refine y_then (hK3 _ _ ?_)
    refine y_seq fun K13 hK13 => ?_
    refine y_region ?_
    refine y_k (.int .u64 least5_3 : Value) w_5 rfl rfl rfl (by kernel_rfl) ?_
    refine y_k (.int .u32 (IntKind.u32.wrap least5_3) : Value) w_5 rfl rfl rfl (by kernel_rfl) ?_
    refine y_k (.int .u32 (IntKind.u32.wrap least5_3) : Value) w_5 rfl rfl rfl (by kernel_rfl) ?_
    refine y_nil ?_
    refine y_then (hK13 _ _ ?_)
    refine y_ret ?_
    repeat (first | refine e_then_r ?_ | refine e_block_r ?_)
    exact (hQ0 _ _ _ (res1 (v := (.int .u32 (IntKind.u32.wrap least5_3) : Value)) rfl rfl rfl) ⟨_, rfl, h⟩).1

def F109_j1 (K : Bool → World → Prop) (t6_7 : Bool) (w_8 : World) : Prop :=
  K t6_7 w_8
def F109_l2 (K : Bool → World → Prop) (t42_9 : Int) (t42_10 : Int) (t48_12 : Int) (t48_13 : Int) (w_14 : World) (next17 : (Int) → World → Prop) : (Int) → World → Prop := fun (t69_17) w_18 =>
  ((t69_17 < 3 →
  ∃ (t72_19 : Int), (Instr.index 170 (.agg #[.int .u64 (IntKind.u64.wrap (t48_12 + ((Int.ofNat ((Int.toNat t42_9 + Int.toNat t48_13 + Int.toNat 0) / 18446744073709551616))))), .int .u64 ((Int.ofNat ((Int.toNat t42_9 + Int.toNat t48_13 + Int.toNat 0) % 18446744073709551616))), .int .u64 t42_10] : Value) (.int .i64 t69_17 : Value)).run Try.prog w_18 = .ok (.int .u64 t72_19 : Value) w_18 ∧
  (0 : Int) ≤ t69_17 ∧ t69_17 < 3 ∧
  ∃ (t76_20 : Int), w_18.cell? ((⟨w_14.heap.size, 0, none⟩ : Addr).add (Int.toNat t69_17)) = some (.int .u64 t76_20) ∧
  ((¬ t72_19 = t76_20 →
  (0 : Int) ≤ t69_17 ∧ t69_17 < 3 ∧
  ∃ (t81_21 : Int), w_18.cell? ((⟨w_14.heap.size, 0, none⟩ : Addr).add (Int.toNat t69_17)) = some (.int .u64 t81_21) ∧
  K (decide (t72_19 > t81_21)) w_18) ∧
  (t72_19 = t76_20 →
  next17 (IntKind.i64.wrap (t69_17 + 1)) w_18))) ∧
  (¬ (t69_17 < 3) →
  K false w_18))
/-- turnkey/sum.above -/
def F109 (x0_1 : Int) (p1_2 : Int) (degree2_3 : Int) (K : Bool → World → Prop) (w : World) : Prop :=
  Calls Try.prog 116 #[.int .u64 x0_1, .int .u64 x0_1] w fun e w_6 => ∃ (t22_4 : Int), ∃ (t22_5 : Int), e = .returned (.tuple #[.int .u64 t22_4, .int .u64 t22_5] : Value) ∧
  ((degree2_3 = 2 →
  ((t22_4 > p1_2 →
  F109_j1 K true w_6) ∧
  (¬ (t22_4 > p1_2) →
  ((t22_4 = p1_2 →
  F109_j1 K (decide (t22_5 > 0)) w_6) ∧
  (¬ t22_4 = p1_2 →
  F109_j1 K false w_6))))) ∧
  (¬ degree2_3 = 2 →
  Calls Try.prog 116 #[.int .u64 t22_5, .int .u64 x0_1] w_6 fun e w_11 => ∃ (t42_9 : Int), ∃ (t42_10 : Int), e = .returned (.tuple #[.int .u64 t42_9, .int .u64 t42_10] : Value) ∧
  Calls Try.prog 116 #[.int .u64 t22_4, .int .u64 x0_1] w_11 fun e w_14 => ∃ (t48_12 : Int), ∃ (t48_13 : Int), e = .returned (.tuple #[.int .u64 t48_12, .int .u64 t48_13] : Value) ∧
  ∀ (w_15 : World), w_15 = w_14.alloc (.cells #[.int .u64 0, .int .u64 0, .int .u64 0] 170) →
  HasCells w_15 (⟨w_14.heap.size, 0, none⟩ : Addr) 0 3 ∧ ∀ (w_16 : World), w_16 = setCells w_15 (⟨w_14.heap.size, 0, none⟩ : Addr) 0 [.int .u64 (Int.fdiv p1_2 (2 ^ 32)), .int .u64 (IntKind.u64.wrap (p1_2 * 2 ^ 32)), .int .u64 0] →
  kLoop (F109_l2 K t42_9 t42_10 t48_12 t48_13 w_14) (0) w_16))
set_option maxHeartbeats 4000000 in
set_option maxRecDepth 20000 in
theorem F109_sound (x0_1 : Int) (p1_2 : Int) (degree2_3 : Int) (K : Bool → World → Prop) (w : World) (h : F109 x0_1 p1_2 degree2_3 K w) :
    Calls Try.prog 109 #[.int .u64 x0_1, .int .u64 p1_2, .int .i64 degree2_3] w (fun e w1 => ∃ (r0 : Bool), e = .returned (.bool r0 : Value) ∧ K r0 w1) := by
  unfold F109 at h
  refine y_enter (n := 84) (args := [.int .u64 x0_1, .int .u64 p1_2, .int .i64 degree2_3]) Try.func109 rfl rfl rfl fun Q0 hQ0 => ?_
  refine y_seq fun K1 hK1 => ?_
  refine y_region ?_
  refine y_k (.bool false : Value) w rfl rfl rfl (by kernel_rfl) ?_
  refine y_nil ?_
  refine y_then (hK1 _ _ ?_)
  refine y_seq fun K2 hK2 => ?_
  refine y_region ?_
  refine y_k (.int .u64 x0_1 : Value) w rfl rfl rfl (by kernel_rfl) ?_
  refine y_k (.int .u64 x0_1 : Value) w rfl rfl rfl (by kernel_rfl) ?_
  refine y_call rfl rfl rfl (by kernel_rfl) (h.mono ?_)
  rintro _ w_6 ⟨t22_4, t22_5, rfl, h⟩
  refine ⟨_, rfl, ?_⟩
  refine y_k (.tuple #[.int .u64 t22_4, .int .u64 t22_5] : Value) w_6 rfl rfl rfl (by kernel_rfl) ?_
  refine y_k (.int .u64 t22_4 : Value) w_6 rfl rfl rfl (by kernel_rfl) ?_
  refine y_k (.int .u64 t22_5 : Value) w_6 rfl rfl rfl (by kernel_rfl) ?_
  refine y_k (.int .u64 t22_4 : Value) w_6 rfl rfl rfl (by kernel_rfl) ?_
  refine y_k (.int .u64 t22_5 : Value) w_6 rfl rfl rfl (by kernel_rfl) ?_
  refine y_nil ?_
  refine y_then (hK2 _ _ ?_)
  refine y_seq fun K3 hK3 => ?_
  refine y_seq fun K4 hK4 => ?_
  refine y_region ?_
  refine y_k (.int .i64 degree2_3 : Value) w_6 rfl rfl rfl (by kernel_rfl) ?_
  refine y_k (.bool ((degree2_3 == 2)) : Value) w_6 rfl rfl rfl (by kernel_rfl) ?_
  refine y_nil ?_
  refine y_then (hK4 _ _ ?_)
  refine y_cond ((degree2_3 == 2)) rfl rfl (fun hb34 => ?_) (fun hb34 => ?_)
  · replace h := h.1 (eq_of_beq hb34)
    refine y_seq fun K5 hK5 => ?_
    have hjK5 : ∀ (f : Fr) (t6_7 : Bool) (w_8 : World), f 6 = (.bool t6_7 : Value) → F109_j1 K t6_7 w_8 → WK K5 84 f w_8 := by
      intro f t6_7 w_8 e6 h
      refine y_atf (upd_id rfl e6) ?_
      clear e6
      unfold F109_j1 at h
      refine hK5 _ _ ?_
      refine y_ret ?_
      repeat (first | refine e_then_r ?_ | refine e_block_r ?_)
      exact (hQ0 _ _ _ (res1 (v := (.bool t6_7 : Value)) rfl rfl rfl) ⟨_, rfl, h⟩).1
    refine y_region ?_
    refine y_k (.int .u64 t22_4 : Value) w_6 rfl rfl rfl (by kernel_rfl) ?_
    refine y_k (.int .u64 p1_2 : Value) w_6 rfl rfl rfl (by kernel_rfl) ?_
    refine y_k (.bool (decide (t22_4 > p1_2)) : Value) w_6 rfl rfl rfl (by kernel_rfl) ?_
    refine y_k (.bool (decide (t22_4 > p1_2)) : Value) w_6 rfl rfl rfl (by kernel_rfl) ?_
    refine y_fork (decide (t22_4 > p1_2)) (fun hb6 => ?_) (fun hb6 => ?_)
    · replace h := h.1 (of_decide_eq_true hb6)
      refine y_frame (upd_id (i := 30) (v := .bool true) rfl (congrArg Value.bool hb6)) ?_
      refine y_gno rfl rfl rfl rfl ?_
      refine y_gno rfl rfl rfl rfl ?_
      refine y_gno rfl rfl rfl rfl ?_
      refine y_gno rfl rfl rfl rfl ?_
      refine y_gud rfl rfl rfl rfl ?_
      refine y_gud rfl rfl rfl rfl ?_
      refine y_gno rfl rfl rfl rfl ?_
      refine y_k (.bool true : Value) w_6 rfl rfl rfl (by kernel_rfl) ?_
      refine y_k (.bool true : Value) w_6 rfl rfl rfl (by kernel_rfl) ?_
      refine y_nil ?_
      exact y_then (hjK5 _ true w_6 rfl h)
    · replace h := h.2 (of_decide_eq_false hb6)
      refine y_frame (upd_id (i := 30) (v := .bool false) rfl (congrArg Value.bool hb6)) ?_
      refine y_gyes rfl rfl rfl ?_
      refine y_k (.int .u64 t22_4 : Value) w_6 rfl rfl rfl (by kernel_rfl) ?_
      refine y_gyes rfl rfl rfl ?_
      refine y_k (.int .u64 p1_2 : Value) w_6 rfl rfl rfl (by kernel_rfl) ?_
      refine y_gyes rfl rfl rfl ?_
      refine y_k (.bool ((t22_4 == p1_2)) : Value) w_6 rfl rfl rfl (by kernel_rfl) ?_
      refine y_gyes rfl rfl rfl ?_
      refine y_k (.bool ((t22_4 == p1_2)) : Value) w_6 rfl rfl rfl (by kernel_rfl) ?_
      refine y_fork ((t22_4 == p1_2)) (fun hb7 => ?_) (fun hb7 => ?_)
      · replace h := h.1 (eq_of_beq hb7)
        refine y_frame (upd_id (i := 34) (v := .bool true) rfl (congrArg Value.bool hb7)) ?_
        refine y_gyes rfl rfl rfl ?_
        refine y_k (.int .u64 t22_5 : Value) w_6 rfl rfl rfl (by kernel_rfl) ?_
        refine y_gyes rfl rfl rfl ?_
        refine y_k (.bool (decide (t22_5 > 0)) : Value) w_6 rfl rfl rfl (by kernel_rfl) ?_
        refine y_gyes rfl rfl rfl ?_
        refine y_k (.bool (decide (t22_5 > 0)) : Value) w_6 rfl rfl rfl (by kernel_rfl) ?_
        refine y_k (.bool (decide (t22_5 > 0)) : Value) w_6 rfl rfl rfl (by kernel_rfl) ?_
        refine y_k (.bool (decide (t22_5 > 0)) : Value) w_6 rfl rfl rfl (by kernel_rfl) ?_
        refine y_nil ?_
        exact y_then (hjK5 _ (decide (t22_5 > 0)) w_6 rfl h)
      · replace h := h.2 (beq_eq_false_iff_ne.mp hb7)
        refine y_frame (upd_id (i := 34) (v := .bool false) rfl (congrArg Value.bool hb7)) ?_
        refine y_gno rfl rfl rfl rfl ?_
        refine y_gno rfl rfl rfl rfl ?_
        refine y_gyes rfl rfl rfl ?_
        refine y_k (.bool false : Value) w_6 rfl rfl rfl (by kernel_rfl) ?_
        refine y_k (.bool false : Value) w_6 rfl rfl rfl (by kernel_rfl) ?_
        refine y_k (.bool false : Value) w_6 rfl rfl rfl (by kernel_rfl) ?_
        refine y_nil ?_
        exact y_then (hjK5 _ false w_6 rfl h)
  · replace h := h.2 (beq_eq_false_iff_ne.mp hb34)
    refine y_skip ?_
    refine y_then (hK3 _ _ ?_)
    refine y_seq fun K8 hK8 => ?_
    refine y_region ?_
    refine y_k (.int .u64 t22_5 : Value) w_6 rfl rfl rfl (by kernel_rfl) ?_
    refine y_k (.int .u64 x0_1 : Value) w_6 rfl rfl rfl (by kernel_rfl) ?_
    refine y_call rfl rfl rfl (by kernel_rfl) (h.mono ?_)
    rintro _ w_11 ⟨t42_9, t42_10, rfl, h⟩
    refine ⟨_, rfl, ?_⟩
    refine y_k (.tuple #[.int .u64 t42_9, .int .u64 t42_10] : Value) w_11 rfl rfl rfl (by kernel_rfl) ?_
    refine y_k (.int .u64 t42_9 : Value) w_11 rfl rfl rfl (by kernel_rfl) ?_
    refine y_k (.int .u64 t42_10 : Value) w_11 rfl rfl rfl (by kernel_rfl) ?_
    refine y_k (.int .u64 t42_9 : Value) w_11 rfl rfl rfl (by kernel_rfl) ?_
    refine y_k (.int .u64 t42_10 : Value) w_11 rfl rfl rfl (by kernel_rfl) ?_
    refine y_nil ?_
    refine y_then (hK8 _ _ ?_)
    refine y_seq fun K9 hK9 => ?_
    refine y_region ?_
    refine y_k (.int .u64 t22_4 : Value) w_11 rfl rfl rfl (by kernel_rfl) ?_
    refine y_k (.int .u64 x0_1 : Value) w_11 rfl rfl rfl (by kernel_rfl) ?_
    refine y_call rfl rfl rfl (by kernel_rfl) (h.mono ?_)
    rintro _ w_14 ⟨t48_12, t48_13, rfl, h⟩
    refine ⟨_, rfl, ?_⟩
    refine y_k (.tuple #[.int .u64 t48_12, .int .u64 t48_13] : Value) w_14 rfl rfl rfl (by kernel_rfl) ?_
    refine y_k (.int .u64 t48_12 : Value) w_14 rfl rfl rfl (by kernel_rfl) ?_
    refine y_k (.int .u64 t48_13 : Value) w_14 rfl rfl rfl (by kernel_rfl) ?_
    refine y_k (.int .u64 t48_12 : Value) w_14 rfl rfl rfl (by kernel_rfl) ?_
    refine y_k (.int .u64 t48_13 : Value) w_14 rfl rfl rfl (by kernel_rfl) ?_
    refine y_nil ?_
    refine y_then (hK9 _ _ ?_)
    refine y_seq fun K10 hK10 => ?_
    refine y_region ?_
    refine y_k (.int .u64 t42_9 : Value) w_14 rfl rfl rfl (by kernel_rfl) ?_
    refine y_k (.int .u64 t48_13 : Value) w_14 rfl rfl rfl (by kernel_rfl) ?_
    refine y_k (.tuple #[.int .u64 ((Int.ofNat ((Int.toNat t42_9 + Int.toNat t48_13 + Int.toNat 0) % 18446744073709551616))), .int .u64 ((Int.ofNat ((Int.toNat t42_9 + Int.toNat t48_13 + Int.toNat 0) / 18446744073709551616)))] : Value) w_14 rfl rfl rfl (by kernel_rfl) ?_
    refine y_k (.tuple #[.int .u64 ((Int.ofNat ((Int.toNat t42_9 + Int.toNat t48_13 + Int.toNat 0) % 18446744073709551616))), .int .u64 ((Int.ofNat ((Int.toNat t42_9 + Int.toNat t48_13 + Int.toNat 0) / 18446744073709551616)))] : Value) w_14 rfl rfl rfl (by kernel_rfl) ?_
    refine y_k (.int .u64 ((Int.ofNat ((Int.toNat t42_9 + Int.toNat t48_13 + Int.toNat 0) % 18446744073709551616))) : Value) w_14 rfl rfl rfl (by kernel_rfl) ?_
    refine y_k (.int .u64 ((Int.ofNat ((Int.toNat t42_9 + Int.toNat t48_13 + Int.toNat 0) / 18446744073709551616))) : Value) w_14 rfl rfl rfl (by kernel_rfl) ?_
    refine y_k (.int .u64 ((Int.ofNat ((Int.toNat t42_9 + Int.toNat t48_13 + Int.toNat 0) % 18446744073709551616))) : Value) w_14 rfl rfl rfl (by kernel_rfl) ?_
    refine y_k (.int .u64 ((Int.ofNat ((Int.toNat t42_9 + Int.toNat t48_13 + Int.toNat 0) / 18446744073709551616))) : Value) w_14 rfl rfl rfl (by kernel_rfl) ?_
    refine y_nil ?_
    refine y_then (hK10 _ _ ?_)
    refine y_seq fun K11 hK11 => ?_
    refine y_region ?_
    refine y_k (.int .u64 t48_12 : Value) w_14 rfl rfl rfl (by kernel_rfl) ?_
    refine y_k (.int .u64 ((Int.ofNat ((Int.toNat t42_9 + Int.toNat t48_13 + Int.toNat 0) / 18446744073709551616))) : Value) w_14 rfl rfl rfl (by kernel_rfl) ?_
    refine y_k (.int .u64 (IntKind.u64.wrap (t48_12 + ((Int.ofNat ((Int.toNat t42_9 + Int.toNat t48_13 + Int.toNat 0) / 18446744073709551616))))) : Value) w_14 rfl rfl rfl (by kernel_rfl) ?_
    refine y_k (.int .u64 (IntKind.u64.wrap (t48_12 + ((Int.ofNat ((Int.toNat t42_9 + Int.toNat t48_13 + Int.toNat 0) / 18446744073709551616))))) : Value) w_14 rfl rfl rfl (by kernel_rfl) ?_
    refine y_nil ?_
    refine y_then (hK11 _ _ ?_)
    refine y_seq fun K12 hK12 => ?_
    refine y_region ?_
    refine y_k (.int .u64 p1_2 : Value) w_14 rfl rfl rfl (by kernel_rfl) ?_
    refine y_k (.int .u64 (Int.fdiv p1_2 (2 ^ 32)) : Value) w_14 rfl rfl rfl (by kernel_rfl) ?_
    refine y_k (.int .u64 p1_2 : Value) w_14 rfl rfl rfl (by kernel_rfl) ?_
    refine y_k (.int .u64 (IntKind.u64.wrap (p1_2 * 2 ^ 32)) : Value) w_14 rfl rfl rfl (by kernel_rfl) ?_
    refine y_k (.agg #[.int .u64 (Int.fdiv p1_2 (2 ^ 32)), .int .u64 (IntKind.u64.wrap (p1_2 * 2 ^ 32)), .int .u64 0] : Value) w_14 rfl rfl rfl (by kernel_rfl) ?_
    refine y_k (.pointer (some (⟨w_14.heap.size, 0, none⟩ : Addr)) : Value) (w_14.alloc (.cells #[.int .u64 0, .int .u64 0, .int .u64 0] 170)) rfl rfl rfl (by kernel_rfl) ?_
    replace h := h _ rfl
    generalize w_14.alloc (.cells #[.int .u64 0, .int .u64 0, .int .u64 0] 170) = w_15 at h ⊢
    obtain ⟨hx13, h⟩ := h
    replace h := h _ rfl
    refine y_u (s := Instr.storeAt 170 (.pointer (some (⟨w_14.heap.size, 0, none⟩ : Addr))) (.agg #[.int .u64 (Int.fdiv p1_2 (2 ^ 32)), .int .u64 (IntKind.u64.wrap (p1_2 * 2 ^ 32)), .int .u64 0] : Value)) rfl rfl (by kernel_rfl) (rn_storecells (k := 3) (cs := [.int .u64 (Int.fdiv p1_2 (2 ^ 32)), .int .u64 (IntKind.u64.wrap (p1_2 * 2 ^ 32)), .int .u64 0]) (by kernel_rfl) rfl (by simp [Value.oneCell']) hx13) ?_
    generalize setCells w_15 (⟨w_14.heap.size, 0, none⟩ : Addr) 0 [.int .u64 (Int.fdiv p1_2 (2 ^ 32)), .int .u64 (IntKind.u64.wrap (p1_2 * 2 ^ 32)), .int .u64 0] = w_16 at h ⊢
    refine y_nil ?_
    refine y_then (hK12 _ _ ?_)
    refine y_seq fun K14 hK14 => ?_
    refine y_seq fun K15 hK15 => ?_
    refine y_region ?_
    refine y_k (.int .u64 (IntKind.u64.wrap (t48_12 + ((Int.ofNat ((Int.toNat t42_9 + Int.toNat t48_13 + Int.toNat 0) / 18446744073709551616))))) : Value) w_16 rfl rfl rfl (by kernel_rfl) ?_
    refine y_k (.int .u64 ((Int.ofNat ((Int.toNat t42_9 + Int.toNat t48_13 + Int.toNat 0) % 18446744073709551616))) : Value) w_16 rfl rfl rfl (by kernel_rfl) ?_
    refine y_k (.int .u64 t42_10 : Value) w_16 rfl rfl rfl (by kernel_rfl) ?_
    refine y_k (.agg #[.int .u64 (IntKind.u64.wrap (t48_12 + ((Int.ofNat ((Int.toNat t42_9 + Int.toNat t48_13 + Int.toNat 0) / 18446744073709551616))))), .int .u64 ((Int.ofNat ((Int.toNat t42_9 + Int.toNat t48_13 + Int.toNat 0) % 18446744073709551616))), .int .u64 t42_10] : Value) w_16 rfl rfl rfl (by kernel_rfl) ?_
    refine y_k (.int .i64 0 : Value) w_16 rfl rfl rfl (by kernel_rfl) ?_
    refine y_nil ?_
    refine y_then (hK15 _ _ ?_)
    refine y_block ?_
    refine y_loop (S := Int) (fun s j => match s with | (t69_17) => upd (upd (upd (j) 16 (.pointer (some (⟨w_14.heap.size, 0, none⟩ : Addr)) : Value)) 68 (.agg #[.int .u64 (IntKind.u64.wrap (t48_12 + ((Int.ofNat ((Int.toNat t42_9 + Int.toNat t48_13 + Int.toNat 0) / 18446744073709551616))))), .int .u64 ((Int.ofNat ((Int.toNat t42_9 + Int.toNat t48_13 + Int.toNat 0) % 18446744073709551616))), .int .u64 t42_10] : Value)) 69 (.int .i64 t69_17 : Value)) (0) ?_ h ?_
    · dsimp only
      refine upd_id ?_ rfl
      refine upd_id ?_ rfl
      refine upd_id ?_ rfl
      rfl
    rintro KN18 next17 hN18 t69_17 j w_18 h
    unfold F109_l2 at h
    refine y_seq fun K19 hK19 => ?_
    refine y_region ?_
    refine y_k (.bool (decide (t69_17 < 3)) : Value) w_18 rfl rfl rfl (by kernel_rfl) ?_
    refine y_nil ?_
    refine y_then (hK19 _ _ ?_)
    refine y_seq fun K20 hK20 => ?_
    refine y_cond (decide (t69_17 < 3)) rfl rfl (fun hb33 => ?_) (fun hb33 => ?_)
    · replace h := h.1 (of_decide_eq_true hb33)
      refine y_skip ?_
      refine y_then (hK20 _ _ ?_)
      refine y_seq fun K21 hK21 => ?_
      refine y_block ?_
      refine y_seq fun K23 hK23 => ?_
      refine y_region ?_
      refine y_k (.int .i64 t69_17 : Value) w_18 rfl rfl rfl (by kernel_rfl) ?_
      obtain ⟨t72_19, hx24, h⟩ := h
      refine y_v (s := Instr.index 170 (.agg #[.int .u64 (IntKind.u64.wrap (t48_12 + ((Int.ofNat ((Int.toNat t42_9 + Int.toNat t48_13 + Int.toNat 0) / 18446744073709551616))))), .int .u64 ((Int.ofNat ((Int.toNat t42_9 + Int.toNat t48_13 + Int.toNat 0) % 18446744073709551616))), .int .u64 t42_10] : Value) (.int .i64 t69_17 : Value)) rfl rfl rfl (by kernel_rfl) (hx24) ?_
      refine y_k (.int .i64 t69_17 : Value) w_18 rfl rfl rfl (by kernel_rfl) ?_
      refine y_k (.int .u64 t72_19 : Value) w_18 rfl rfl rfl (by kernel_rfl) ?_
      refine y_nil ?_
      refine y_then (hK23 _ _ ?_)
      refine y_seq fun K25 hK25 => ?_
      refine y_region ?_
      refine y_k (.int .u64 t72_19 : Value) w_18 rfl rfl rfl (by kernel_rfl) ?_
      refine y_k (.int .i64 t69_17 : Value) w_18 rfl rfl rfl (by kernel_rfl) ?_
      obtain ⟨hx26a, hx26b, h⟩ := h
      refine y_v (v := (.pointer (some ((⟨w_14.heap.size, 0, none⟩ : Addr).add (Int.toNat t69_17))) : Value)) (s := Instr.indexAt 170 (.pointer (some (⟨w_14.heap.size, 0, none⟩ : Addr)) : Value) (.int .i64 t69_17 : Value)) rfl rfl rfl (by kernel_rfl) (run_ixa1 (el := 87) (by kernel_rfl) (by kernel_rfl) hx26a hx26b) ?_
      obtain ⟨t76_20, hx27, h⟩ := h
      refine y_v (s := Instr.loadAt 87 (.pointer (some ((⟨w_14.heap.size, 0, none⟩ : Addr).add (Int.toNat t69_17))))) rfl rfl rfl (by kernel_rfl) (rn_load (by kernel_rfl) hx27) ?_
      refine y_k (.bool ((t72_19 != t76_20)) : Value) w_18 rfl rfl rfl (by kernel_rfl) ?_
      refine y_nil ?_
      refine y_then (hK25 _ _ ?_)
      refine y_cond ((t72_19 != t76_20)) rfl rfl (fun hb31 => ?_) (fun hb31 => ?_)
      · replace h := h.1 (bne_iff_ne.mp hb31)
        refine y_seq fun K28 hK28 => ?_
        refine y_region ?_
        refine y_k (.int .u64 t72_19 : Value) w_18 rfl rfl rfl (by kernel_rfl) ?_
        refine y_k (.int .i64 t69_17 : Value) w_18 rfl rfl rfl (by kernel_rfl) ?_
        obtain ⟨hx29a, hx29b, h⟩ := h
        refine y_v (v := (.pointer (some ((⟨w_14.heap.size, 0, none⟩ : Addr).add (Int.toNat t69_17))) : Value)) (s := Instr.indexAt 170 (.pointer (some (⟨w_14.heap.size, 0, none⟩ : Addr)) : Value) (.int .i64 t69_17 : Value)) rfl rfl rfl (by kernel_rfl) (run_ixa1 (el := 87) (by kernel_rfl) (by kernel_rfl) hx29a hx29b) ?_
        obtain ⟨t81_21, hx30, h⟩ := h
        refine y_v (s := Instr.loadAt 87 (.pointer (some ((⟨w_14.heap.size, 0, none⟩ : Addr).add (Int.toNat t69_17))))) rfl rfl rfl (by kernel_rfl) (rn_load (by kernel_rfl) hx30) ?_
        refine y_k (.bool (decide (t72_19 > t81_21)) : Value) w_18 rfl rfl rfl (by kernel_rfl) ?_
        refine y_k (.bool (decide (t72_19 > t81_21)) : Value) w_18 rfl rfl rfl (by kernel_rfl) ?_
        refine y_nil ?_
        refine y_then (hK28 _ _ ?_)
        refine y_ret ?_
        repeat (first | refine e_then_r ?_ | refine e_block_r ?_)
        exact (hQ0 _ _ _ (res1 (v := (.bool (decide (t72_19 > t81_21)) : Value)) rfl rfl rfl) ⟨_, rfl, h⟩).1
      · replace h := h.2 (bne_eq_false_iff_eq.mp hb31)
        refine y_skip ?_
        refine e_block_n ?_
        refine y_then (hK21 _ _ ?_)
        refine y_region ?_
        refine y_k (.int .i64 (IntKind.i64.wrap (t69_17 + 1)) : Value) w_18 rfl rfl rfl (by kernel_rfl) ?_
        refine y_k (.int .i64 (IntKind.i64.wrap (t69_17 + 1)) : Value) w_18 rfl rfl rfl (by kernel_rfl) ?_
        refine y_nil ?_
        refine y_then (hN18 (IntKind.i64.wrap (t69_17 + 1)) _ _ h ?_)
        dsimp only
        refine upd_id ?_ rfl
        refine upd_id ?_ rfl
        refine upd_id ?_ rfl
        rfl
    · replace h := h.2 (of_decide_eq_false hb33)
      refine y_exit ?_
      repeat (first | refine e_then_x ?_ | refine e_block_y rfl ?_)
      refine e_block_x ?_
      refine y_then (hK14 _ _ ?_)
      refine y_seq fun K32 hK32 => ?_
      refine y_region ?_
      refine y_k (.bool false : Value) w_18 rfl rfl rfl (by kernel_rfl) ?_
      refine y_nil ?_
      refine y_then (hK32 _ _ ?_)
      refine y_ret ?_
      repeat (first | refine e_then_r ?_ | refine e_block_r ?_)
      exact (hQ0 _ _ _ (res1 (v := (.bool false : Value)) rfl rfl rfl) ⟨_, rfl, h⟩).1

/-- math/bits.Mul64 -/
def F116 (x0_1 : Int) (y1_2 : Int) (K : Int → Int → World → Prop) (w : World) : Prop :=
  K (IntKind.u64.wrap ((IntKind.u64.wrap ((IntKind.u64.wrap ((Int.fdiv x0_1 (2 ^ 32)) * (Int.fdiv y1_2 (2 ^ 32)))) + (Int.fdiv (IntKind.u64.wrap ((IntKind.u64.wrap ((Int.fdiv x0_1 (2 ^ 32)) * (ibits .and .u64 y1_2 4294967295))) + (Int.fdiv (IntKind.u64.wrap ((ibits .and .u64 x0_1 4294967295) * (ibits .and .u64 y1_2 4294967295))) (2 ^ 32)))) (2 ^ 32)))) + (Int.fdiv (IntKind.u64.wrap ((ibits .and .u64 (IntKind.u64.wrap ((IntKind.u64.wrap ((Int.fdiv x0_1 (2 ^ 32)) * (ibits .and .u64 y1_2 4294967295))) + (Int.fdiv (IntKind.u64.wrap ((ibits .and .u64 x0_1 4294967295) * (ibits .and .u64 y1_2 4294967295))) (2 ^ 32)))) 4294967295) + (IntKind.u64.wrap ((ibits .and .u64 x0_1 4294967295) * (Int.fdiv y1_2 (2 ^ 32)))))) (2 ^ 32)))) (IntKind.u64.wrap (x0_1 * y1_2)) w
set_option maxHeartbeats 4000000 in
set_option maxRecDepth 20000 in
theorem F116_sound (x0_1 : Int) (y1_2 : Int) (K : Int → Int → World → Prop) (w : World) (h : F116 x0_1 y1_2 K w) :
    Calls Try.prog 116 #[.int .u64 x0_1, .int .u64 y1_2] w (fun e w1 => ∃ (r0 : Int), ∃ (r1 : Int), e = .returned (.tuple #[.int .u64 r0, .int .u64 r1]) ∧ K r0 r1 w1) := by
  unfold F116 at h
  refine y_enter (n := 51) (args := [.int .u64 x0_1, .int .u64 y1_2]) Try.func116 rfl rfl rfl fun Q0 hQ0 => ?_
  refine y_seq fun K1 hK1 => ?_
  refine y_region ?_
  refine y_k (.int .u64 0 : Value) w rfl rfl rfl (by kernel_rfl) ?_
  refine y_k (.int .u64 0 : Value) w rfl rfl rfl (by kernel_rfl) ?_
  refine y_nil ?_
  refine y_then (hK1 _ _ ?_)
  refine y_seq fun K2 hK2 => ?_
  refine y_region ?_
  refine y_k (.int .u64 x0_1 : Value) w rfl rfl rfl (by kernel_rfl) ?_
  refine y_k (.int .u64 (ibits .and .u64 x0_1 4294967295) : Value) w rfl rfl rfl (by kernel_rfl) ?_
  refine y_k (.int .u64 (ibits .and .u64 x0_1 4294967295) : Value) w rfl rfl rfl (by kernel_rfl) ?_
  refine y_nil ?_
  refine y_then (hK2 _ _ ?_)
  refine y_seq fun K3 hK3 => ?_
  refine y_region ?_
  refine y_k (.int .u64 x0_1 : Value) w rfl rfl rfl (by kernel_rfl) ?_
  refine y_k (.int .u64 (Int.fdiv x0_1 (2 ^ 32)) : Value) w rfl rfl rfl (by kernel_rfl) ?_
  refine y_k (.int .u64 (Int.fdiv x0_1 (2 ^ 32)) : Value) w rfl rfl rfl (by kernel_rfl) ?_
  refine y_nil ?_
  refine y_then (hK3 _ _ ?_)
  refine y_seq fun K4 hK4 => ?_
  refine y_region ?_
  refine y_k (.int .u64 y1_2 : Value) w rfl rfl rfl (by kernel_rfl) ?_
  refine y_k (.int .u64 (ibits .and .u64 y1_2 4294967295) : Value) w rfl rfl rfl (by kernel_rfl) ?_
  refine y_k (.int .u64 (ibits .and .u64 y1_2 4294967295) : Value) w rfl rfl rfl (by kernel_rfl) ?_
  refine y_nil ?_
  refine y_then (hK4 _ _ ?_)
  refine y_seq fun K5 hK5 => ?_
  refine y_region ?_
  refine y_k (.int .u64 y1_2 : Value) w rfl rfl rfl (by kernel_rfl) ?_
  refine y_k (.int .u64 (Int.fdiv y1_2 (2 ^ 32)) : Value) w rfl rfl rfl (by kernel_rfl) ?_
  refine y_k (.int .u64 (Int.fdiv y1_2 (2 ^ 32)) : Value) w rfl rfl rfl (by kernel_rfl) ?_
  refine y_nil ?_
  refine y_then (hK5 _ _ ?_)
  refine y_seq fun K6 hK6 => ?_
  refine y_region ?_
  refine y_k (.int .u64 (ibits .and .u64 x0_1 4294967295) : Value) w rfl rfl rfl (by kernel_rfl) ?_
  refine y_k (.int .u64 (ibits .and .u64 y1_2 4294967295) : Value) w rfl rfl rfl (by kernel_rfl) ?_
  refine y_k (.int .u64 (IntKind.u64.wrap ((ibits .and .u64 x0_1 4294967295) * (ibits .and .u64 y1_2 4294967295))) : Value) w rfl rfl rfl (by kernel_rfl) ?_
  refine y_k (.int .u64 (IntKind.u64.wrap ((ibits .and .u64 x0_1 4294967295) * (ibits .and .u64 y1_2 4294967295))) : Value) w rfl rfl rfl (by kernel_rfl) ?_
  refine y_nil ?_
  refine y_then (hK6 _ _ ?_)
  refine y_seq fun K7 hK7 => ?_
  refine y_region ?_
  refine y_k (.int .u64 (Int.fdiv x0_1 (2 ^ 32)) : Value) w rfl rfl rfl (by kernel_rfl) ?_
  refine y_k (.int .u64 (ibits .and .u64 y1_2 4294967295) : Value) w rfl rfl rfl (by kernel_rfl) ?_
  refine y_k (.int .u64 (IntKind.u64.wrap ((Int.fdiv x0_1 (2 ^ 32)) * (ibits .and .u64 y1_2 4294967295))) : Value) w rfl rfl rfl (by kernel_rfl) ?_
  refine y_k (.int .u64 (IntKind.u64.wrap ((ibits .and .u64 x0_1 4294967295) * (ibits .and .u64 y1_2 4294967295))) : Value) w rfl rfl rfl (by kernel_rfl) ?_
  refine y_k (.int .u64 (Int.fdiv (IntKind.u64.wrap ((ibits .and .u64 x0_1 4294967295) * (ibits .and .u64 y1_2 4294967295))) (2 ^ 32)) : Value) w rfl rfl rfl (by kernel_rfl) ?_
  refine y_k (.int .u64 (IntKind.u64.wrap ((IntKind.u64.wrap ((Int.fdiv x0_1 (2 ^ 32)) * (ibits .and .u64 y1_2 4294967295))) + (Int.fdiv (IntKind.u64.wrap ((ibits .and .u64 x0_1 4294967295) * (ibits .and .u64 y1_2 4294967295))) (2 ^ 32)))) : Value) w rfl rfl rfl (by kernel_rfl) ?_
  refine y_k (.int .u64 (IntKind.u64.wrap ((IntKind.u64.wrap ((Int.fdiv x0_1 (2 ^ 32)) * (ibits .and .u64 y1_2 4294967295))) + (Int.fdiv (IntKind.u64.wrap ((ibits .and .u64 x0_1 4294967295) * (ibits .and .u64 y1_2 4294967295))) (2 ^ 32)))) : Value) w rfl rfl rfl (by kernel_rfl) ?_
  refine y_nil ?_
  refine y_then (hK7 _ _ ?_)
  refine y_seq fun K8 hK8 => ?_
  refine y_region ?_
  refine y_k (.int .u64 (IntKind.u64.wrap ((IntKind.u64.wrap ((Int.fdiv x0_1 (2 ^ 32)) * (ibits .and .u64 y1_2 4294967295))) + (Int.fdiv (IntKind.u64.wrap ((ibits .and .u64 x0_1 4294967295) * (ibits .and .u64 y1_2 4294967295))) (2 ^ 32)))) : Value) w rfl rfl rfl (by kernel_rfl) ?_
  refine y_k (.int .u64 (ibits .and .u64 (IntKind.u64.wrap ((IntKind.u64.wrap ((Int.fdiv x0_1 (2 ^ 32)) * (ibits .and .u64 y1_2 4294967295))) + (Int.fdiv (IntKind.u64.wrap ((ibits .and .u64 x0_1 4294967295) * (ibits .and .u64 y1_2 4294967295))) (2 ^ 32)))) 4294967295) : Value) w rfl rfl rfl (by kernel_rfl) ?_
  refine y_k (.int .u64 (ibits .and .u64 (IntKind.u64.wrap ((IntKind.u64.wrap ((Int.fdiv x0_1 (2 ^ 32)) * (ibits .and .u64 y1_2 4294967295))) + (Int.fdiv (IntKind.u64.wrap ((ibits .and .u64 x0_1 4294967295) * (ibits .and .u64 y1_2 4294967295))) (2 ^ 32)))) 4294967295) : Value) w rfl rfl rfl (by kernel_rfl) ?_
  refine y_nil ?_
  refine y_then (hK8 _ _ ?_)
  refine y_seq fun K9 hK9 => ?_
  refine y_region ?_
  refine y_k (.int .u64 (IntKind.u64.wrap ((IntKind.u64.wrap ((Int.fdiv x0_1 (2 ^ 32)) * (ibits .and .u64 y1_2 4294967295))) + (Int.fdiv (IntKind.u64.wrap ((ibits .and .u64 x0_1 4294967295) * (ibits .and .u64 y1_2 4294967295))) (2 ^ 32)))) : Value) w rfl rfl rfl (by kernel_rfl) ?_
  refine y_k (.int .u64 (Int.fdiv (IntKind.u64.wrap ((IntKind.u64.wrap ((Int.fdiv x0_1 (2 ^ 32)) * (ibits .and .u64 y1_2 4294967295))) + (Int.fdiv (IntKind.u64.wrap ((ibits .and .u64 x0_1 4294967295) * (ibits .and .u64 y1_2 4294967295))) (2 ^ 32)))) (2 ^ 32)) : Value) w rfl rfl rfl (by kernel_rfl) ?_
  refine y_k (.int .u64 (Int.fdiv (IntKind.u64.wrap ((IntKind.u64.wrap ((Int.fdiv x0_1 (2 ^ 32)) * (ibits .and .u64 y1_2 4294967295))) + (Int.fdiv (IntKind.u64.wrap ((ibits .and .u64 x0_1 4294967295) * (ibits .and .u64 y1_2 4294967295))) (2 ^ 32)))) (2 ^ 32)) : Value) w rfl rfl rfl (by kernel_rfl) ?_
  refine y_nil ?_
  refine y_then (hK9 _ _ ?_)
  refine y_seq fun K10 hK10 => ?_
  refine y_region ?_
  refine y_k (.int .u64 (ibits .and .u64 (IntKind.u64.wrap ((IntKind.u64.wrap ((Int.fdiv x0_1 (2 ^ 32)) * (ibits .and .u64 y1_2 4294967295))) + (Int.fdiv (IntKind.u64.wrap ((ibits .and .u64 x0_1 4294967295) * (ibits .and .u64 y1_2 4294967295))) (2 ^ 32)))) 4294967295) : Value) w rfl rfl rfl (by kernel_rfl) ?_
  refine y_k (.int .u64 (ibits .and .u64 x0_1 4294967295) : Value) w rfl rfl rfl (by kernel_rfl) ?_
  refine y_k (.int .u64 (Int.fdiv y1_2 (2 ^ 32)) : Value) w rfl rfl rfl (by kernel_rfl) ?_
  refine y_k (.int .u64 (IntKind.u64.wrap ((ibits .and .u64 x0_1 4294967295) * (Int.fdiv y1_2 (2 ^ 32)))) : Value) w rfl rfl rfl (by kernel_rfl) ?_
  refine y_k (.int .u64 (IntKind.u64.wrap ((ibits .and .u64 (IntKind.u64.wrap ((IntKind.u64.wrap ((Int.fdiv x0_1 (2 ^ 32)) * (ibits .and .u64 y1_2 4294967295))) + (Int.fdiv (IntKind.u64.wrap ((ibits .and .u64 x0_1 4294967295) * (ibits .and .u64 y1_2 4294967295))) (2 ^ 32)))) 4294967295) + (IntKind.u64.wrap ((ibits .and .u64 x0_1 4294967295) * (Int.fdiv y1_2 (2 ^ 32)))))) : Value) w rfl rfl rfl (by kernel_rfl) ?_
  refine y_k (.int .u64 (IntKind.u64.wrap ((ibits .and .u64 (IntKind.u64.wrap ((IntKind.u64.wrap ((Int.fdiv x0_1 (2 ^ 32)) * (ibits .and .u64 y1_2 4294967295))) + (Int.fdiv (IntKind.u64.wrap ((ibits .and .u64 x0_1 4294967295) * (ibits .and .u64 y1_2 4294967295))) (2 ^ 32)))) 4294967295) + (IntKind.u64.wrap ((ibits .and .u64 x0_1 4294967295) * (Int.fdiv y1_2 (2 ^ 32)))))) : Value) w rfl rfl rfl (by kernel_rfl) ?_
  refine y_nil ?_
  refine y_then (hK10 _ _ ?_)
  refine y_seq fun K11 hK11 => ?_
  refine y_region ?_
  refine y_k (.int .u64 (Int.fdiv x0_1 (2 ^ 32)) : Value) w rfl rfl rfl (by kernel_rfl) ?_
  refine y_k (.int .u64 (Int.fdiv y1_2 (2 ^ 32)) : Value) w rfl rfl rfl (by kernel_rfl) ?_
  refine y_k (.int .u64 (IntKind.u64.wrap ((Int.fdiv x0_1 (2 ^ 32)) * (Int.fdiv y1_2 (2 ^ 32)))) : Value) w rfl rfl rfl (by kernel_rfl) ?_
  refine y_k (.int .u64 (Int.fdiv (IntKind.u64.wrap ((IntKind.u64.wrap ((Int.fdiv x0_1 (2 ^ 32)) * (ibits .and .u64 y1_2 4294967295))) + (Int.fdiv (IntKind.u64.wrap ((ibits .and .u64 x0_1 4294967295) * (ibits .and .u64 y1_2 4294967295))) (2 ^ 32)))) (2 ^ 32)) : Value) w rfl rfl rfl (by kernel_rfl) ?_
  refine y_k (.int .u64 (IntKind.u64.wrap ((IntKind.u64.wrap ((Int.fdiv x0_1 (2 ^ 32)) * (Int.fdiv y1_2 (2 ^ 32)))) + (Int.fdiv (IntKind.u64.wrap ((IntKind.u64.wrap ((Int.fdiv x0_1 (2 ^ 32)) * (ibits .and .u64 y1_2 4294967295))) + (Int.fdiv (IntKind.u64.wrap ((ibits .and .u64 x0_1 4294967295) * (ibits .and .u64 y1_2 4294967295))) (2 ^ 32)))) (2 ^ 32)))) : Value) w rfl rfl rfl (by kernel_rfl) ?_
  refine y_k (.int .u64 (IntKind.u64.wrap ((ibits .and .u64 (IntKind.u64.wrap ((IntKind.u64.wrap ((Int.fdiv x0_1 (2 ^ 32)) * (ibits .and .u64 y1_2 4294967295))) + (Int.fdiv (IntKind.u64.wrap ((ibits .and .u64 x0_1 4294967295) * (ibits .and .u64 y1_2 4294967295))) (2 ^ 32)))) 4294967295) + (IntKind.u64.wrap ((ibits .and .u64 x0_1 4294967295) * (Int.fdiv y1_2 (2 ^ 32)))))) : Value) w rfl rfl rfl (by kernel_rfl) ?_
  refine y_k (.int .u64 (Int.fdiv (IntKind.u64.wrap ((ibits .and .u64 (IntKind.u64.wrap ((IntKind.u64.wrap ((Int.fdiv x0_1 (2 ^ 32)) * (ibits .and .u64 y1_2 4294967295))) + (Int.fdiv (IntKind.u64.wrap ((ibits .and .u64 x0_1 4294967295) * (ibits .and .u64 y1_2 4294967295))) (2 ^ 32)))) 4294967295) + (IntKind.u64.wrap ((ibits .and .u64 x0_1 4294967295) * (Int.fdiv y1_2 (2 ^ 32)))))) (2 ^ 32)) : Value) w rfl rfl rfl (by kernel_rfl) ?_
  refine y_k (.int .u64 (IntKind.u64.wrap ((IntKind.u64.wrap ((IntKind.u64.wrap ((Int.fdiv x0_1 (2 ^ 32)) * (Int.fdiv y1_2 (2 ^ 32)))) + (Int.fdiv (IntKind.u64.wrap ((IntKind.u64.wrap ((Int.fdiv x0_1 (2 ^ 32)) * (ibits .and .u64 y1_2 4294967295))) + (Int.fdiv (IntKind.u64.wrap ((ibits .and .u64 x0_1 4294967295) * (ibits .and .u64 y1_2 4294967295))) (2 ^ 32)))) (2 ^ 32)))) + (Int.fdiv (IntKind.u64.wrap ((ibits .and .u64 (IntKind.u64.wrap ((IntKind.u64.wrap ((Int.fdiv x0_1 (2 ^ 32)) * (ibits .and .u64 y1_2 4294967295))) + (Int.fdiv (IntKind.u64.wrap ((ibits .and .u64 x0_1 4294967295) * (ibits .and .u64 y1_2 4294967295))) (2 ^ 32)))) 4294967295) + (IntKind.u64.wrap ((ibits .and .u64 x0_1 4294967295) * (Int.fdiv y1_2 (2 ^ 32)))))) (2 ^ 32)))) : Value) w rfl rfl rfl (by kernel_rfl) ?_
  refine y_k (.int .u64 (IntKind.u64.wrap ((IntKind.u64.wrap ((IntKind.u64.wrap ((Int.fdiv x0_1 (2 ^ 32)) * (Int.fdiv y1_2 (2 ^ 32)))) + (Int.fdiv (IntKind.u64.wrap ((IntKind.u64.wrap ((Int.fdiv x0_1 (2 ^ 32)) * (ibits .and .u64 y1_2 4294967295))) + (Int.fdiv (IntKind.u64.wrap ((ibits .and .u64 x0_1 4294967295) * (ibits .and .u64 y1_2 4294967295))) (2 ^ 32)))) (2 ^ 32)))) + (Int.fdiv (IntKind.u64.wrap ((ibits .and .u64 (IntKind.u64.wrap ((IntKind.u64.wrap ((Int.fdiv x0_1 (2 ^ 32)) * (ibits .and .u64 y1_2 4294967295))) + (Int.fdiv (IntKind.u64.wrap ((ibits .and .u64 x0_1 4294967295) * (ibits .and .u64 y1_2 4294967295))) (2 ^ 32)))) 4294967295) + (IntKind.u64.wrap ((ibits .and .u64 x0_1 4294967295) * (Int.fdiv y1_2 (2 ^ 32)))))) (2 ^ 32)))) : Value) w rfl rfl rfl (by kernel_rfl) ?_
  refine y_nil ?_
  refine y_then (hK11 _ _ ?_)
  refine y_seq fun K12 hK12 => ?_
  refine y_region ?_
  refine y_k (.int .u64 x0_1 : Value) w rfl rfl rfl (by kernel_rfl) ?_
  refine y_k (.int .u64 y1_2 : Value) w rfl rfl rfl (by kernel_rfl) ?_
  refine y_k (.int .u64 (IntKind.u64.wrap (x0_1 * y1_2)) : Value) w rfl rfl rfl (by kernel_rfl) ?_
  refine y_k (.int .u64 (IntKind.u64.wrap (x0_1 * y1_2)) : Value) w rfl rfl rfl (by kernel_rfl) ?_
  refine y_nil ?_
  refine y_then (hK12 _ _ ?_)
  refine y_ret ?_
  repeat (first | refine e_then_r ?_ | refine e_block_r ?_)
  exact (hQ0 _ _ _ (res2 (v1 := (.int .u64 (IntKind.u64.wrap ((IntKind.u64.wrap ((IntKind.u64.wrap ((Int.fdiv x0_1 (2 ^ 32)) * (Int.fdiv y1_2 (2 ^ 32)))) + (Int.fdiv (IntKind.u64.wrap ((IntKind.u64.wrap ((Int.fdiv x0_1 (2 ^ 32)) * (ibits .and .u64 y1_2 4294967295))) + (Int.fdiv (IntKind.u64.wrap ((ibits .and .u64 x0_1 4294967295) * (ibits .and .u64 y1_2 4294967295))) (2 ^ 32)))) (2 ^ 32)))) + (Int.fdiv (IntKind.u64.wrap ((ibits .and .u64 (IntKind.u64.wrap ((IntKind.u64.wrap ((Int.fdiv x0_1 (2 ^ 32)) * (ibits .and .u64 y1_2 4294967295))) + (Int.fdiv (IntKind.u64.wrap ((ibits .and .u64 x0_1 4294967295) * (ibits .and .u64 y1_2 4294967295))) (2 ^ 32)))) 4294967295) + (IntKind.u64.wrap ((ibits .and .u64 x0_1 4294967295) * (Int.fdiv y1_2 (2 ^ 32)))))) (2 ^ 32)))) : Value)) (v2 := (.int .u64 (IntKind.u64.wrap (x0_1 * y1_2)) : Value)) rfl rfl rfl rfl) ⟨_, _, rfl, h⟩).1

end Go.Proofs.Ytjgijifankaglaa
