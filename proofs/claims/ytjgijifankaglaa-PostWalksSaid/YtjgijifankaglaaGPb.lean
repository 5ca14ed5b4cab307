/- Printed by gen.py (own program, wip/): for each Go function a predicate transformer and its soundness. -/
import Derived.Test.YtjgijifankaglaaProg
import Derived.Test.YtjgijifankaglaaST
namespace Go.Proofs.Ytjgijifankaglaa
open Go Go.RowKit Go.Proofs.Ytjgijifankaglaa.SX
set_option linter.unusedVariables false

def F35_l1 (l0_1 : Sl) (K : Bool → World → Prop) (next5 : (Int) → World → Prop) : (Int) → World → Prop := fun (i3_2) w_3 =>
  ((i3_2 < ((l0_1.n : Int)) →
  (0 : Int) ≤ (IntKind.i64.wrap (i3_2 - 1)) ∧ (IntKind.i64.wrap (i3_2 - 1)) < (l0_1.n : Int) ∧ ∃ (a_4 : Addr), l0_1.a = some a_4 ∧
  ∃ (t14_5 : Int), w_3.cell? (a_4.add (Int.toNat (IntKind.i64.wrap (i3_2 - 1)))) = some (.int .u32 t14_5) ∧
  (0 : Int) ≤ i3_2 ∧ i3_2 < (l0_1.n : Int) ∧ ∃ (a_6 : Addr), l0_1.a = some a_6 ∧
  ∃ (t18_7 : Int), w_3.cell? (a_6.add (Int.toNat i3_2)) = some (.int .u32 t18_7) ∧
  ∀ (w_8 : World), (∃ m, w_8 = w_3.drewN m) →
  ((t14_5 ≥ t18_7 →
  K false w_8) ∧
  (¬ (t14_5 ≥ t18_7) →
  next5 (IntKind.i64.wrap (i3_2 + 1)) w_8))) ∧
  (¬ (i3_2 < ((l0_1.n : Int))) →
  K true w_3))
/-- turnkey/turnkeyref12.Rises -/
def F35 (l0_1 : Sl) (K : Bool → World → Prop) (w : World) : Prop :=
  kLoop (F35_l1 l0_1 K) (1) w
set_option maxHeartbeats 4000000 in
set_option maxRecDepth 20000 in
theorem F35_sound (l0_1 : Sl) (K : Bool → World → Prop) (w : World) (h : F35 l0_1 K w) :
    Calls Try.prog 35 #[.slice l0_1.a l0_1.n l0_1.c] w (fun e w1 => ∃ (r0 : Bool), e = .returned (.bool r0 : Value) ∧ K r0 w1) := by
  unfold F35 at h
  refine y_enter (n := 20) (args := [.slice l0_1.a l0_1.n l0_1.c]) Try.func35 rfl rfl rfl fun Q0 hQ0 => ?_
  refine y_seq fun K1 hK1 => ?_
  refine y_region ?_
  refine y_k (.bool false : Value) w rfl rfl rfl (by kernel_rfl) ?_
  refine y_nil ?_
  refine y_then (hK1 _ _ ?_)
  refine y_seq fun K2 hK2 => ?_
  refine y_seq fun K3 hK3 => ?_
  refine y_region ?_
  refine y_k (.int .i64 1 : Value) w rfl rfl rfl (by kernel_rfl) ?_
  refine y_nil ?_
  refine y_then (hK3 _ _ ?_)
  refine y_block ?_
  refine y_loop (S := Int) (fun s j => match s with | (i3_2) => upd (upd (j) 0 (.slice l0_1.a l0_1.n l0_1.c : Value)) 3 (.int .i64 i3_2 : Value)) (1) ?_ h ?_
  · dsimp only
    refine upd_id ?_ rfl
    refine upd_id ?_ rfl
    rfl
  rintro KN6 next5 hN6 i3_2 j w_3 h
  unfold F35_l1 at h
  refine y_seq fun K7 hK7 => ?_
  refine y_seq fun K8 hK8 => ?_
  refine y_region ?_
  refine y_k (.int .i64 i3_2 : Value) w_3 rfl rfl rfl (by kernel_rfl) ?_
  refine y_k (.slice l0_1.a l0_1.n l0_1.c : Value) w_3 rfl rfl rfl (by kernel_rfl) ?_
  refine y_k (.int .i64 ((l0_1.n : Int)) : Value) w_3 rfl rfl rfl (by kernel_rfl) ?_
  refine y_k (.bool (decide (i3_2 < ((l0_1.n : Int)))) : Value) w_3 rfl rfl rfl (by kernel_rfl) ?_
  refine y_nil ?_
  refine y_then (hK8 _ _ ?_)
  refine y_cond (decide (i3_2 < ((l0_1.n : Int)))) rfl rfl (fun hb21 => ?_) (fun hb21 => ?_)
  · replace h := h.1 (of_decide_eq_true hb21)
    refine y_skip ?_
    refine y_then (hK7 _ _ ?_)
    refine y_seq fun K9 hK9 => ?_
    refine y_block ?_
    refine y_seq fun K11 hK11 => ?_
    refine q_region (by kernel_rfl) (by kernel_rfl) fun Qq12 hQq12 => ?_
    refine q_k (.slice l0_1.a l0_1.n l0_1.c : Value) rfl rfl rfl (fun _ => by kernel_rfl) ?_
    refine q_k (.int .i64 i3_2 : Value) rfl rfl rfl (fun _ => by kernel_rfl) ?_
    refine q_k (.int .i64 (IntKind.i64.wrap (i3_2 - 1)) : Value) rfl rfl rfl (fun _ => by kernel_rfl) ?_
    obtain ⟨hx13a, hx13b, a_4, hx13, h⟩ := h
    refine q_v (v := (.pointer (some (a_4.add (Int.toNat (IntKind.i64.wrap (i3_2 - 1))))) : Value)) (s := Instr.indexAt 22 (.slice l0_1.a l0_1.n l0_1.c : Value) (.int .i64 (IntKind.i64.wrap (i3_2 - 1)) : Value)) rfl rfl rfl (by kernel_rfl) (fun _ => run_ixs1 (el := 23) (by kernel_rfl) (by kernel_rfl) hx13 hx13a hx13b) ?_
    obtain ⟨t14_5, hx14, h⟩ := h
    refine q_v (v := (.int .u32 t14_5 : Value)) (s := Instr.loadAt 23 (.pointer (some (a_4.add (Int.toNat (IntKind.i64.wrap (i3_2 - 1))))))) rfl rfl rfl (by kernel_rfl) (fun _ => rn_load (by kernel_rfl) hx14) ?_
    refine q_k (.slice l0_1.a l0_1.n l0_1.c : Value) rfl rfl rfl (fun _ => by kernel_rfl) ?_
    refine q_k (.int .i64 i3_2 : Value) rfl rfl rfl (fun _ => by kernel_rfl) ?_
    obtain ⟨hx15a, hx15b, a_6, hx15, h⟩ := h
    refine q_v (v := (.pointer (some (a_6.add (Int.toNat i3_2))) : Value)) (s := Instr.indexAt 22 (.slice l0_1.a l0_1.n l0_1.c : Value) (.int .i64 i3_2 : Value)) rfl rfl rfl (by kernel_rfl) (fun _ => run_ixs1 (el := 23) (by kernel_rfl) (by kernel_rfl) hx15 hx15a hx15b) ?_
    obtain ⟨t18_7, hx16, h⟩ := h
    refine q_v (v := (.int .u32 t18_7 : Value)) (s := Instr.loadAt 23 (.pointer (some (a_6.add (Int.toNat i3_2))))) rfl rfl rfl (by kernel_rfl) (fun _ => rn_load (by kernel_rfl) hx16) ?_
    refine q_k (.bool (decide (t14_5 ≥ t18_7)) : Value) rfl rfl rfl (fun _ => by kernel_rfl) ?_
    refine q_nil (hQq12 _ fun m19 => ?_)
    replace h := h _ ⟨m19, rfl⟩
    generalize w_3.drewN m19 = w_8 at h ⊢
    refine y_then (hK11 _ _ ?_)
    refine y_cond (decide (t14_5 ≥ t18_7)) rfl rfl (fun hb18 => ?_) (fun hb18 => ?_)
    · replace h := h.1 (of_decide_eq_true hb18)
      refine y_seq fun K17 hK17 => ?_
      refine y_region ?_
      refine y_k (.bool false : Value) w_8 rfl rfl rfl (by kernel_rfl) ?_
      refine y_nil ?_
      refine y_then (hK17 _ _ ?_)
      refine y_ret ?_
      repeat (first | refine e_then_r ?_ | refine e_block_r ?_)
      exact (hQ0 _ _ _ (res1 (v := (.bool false : Value)) rfl rfl rfl) ⟨_, rfl, h⟩).1
    · replace h := h.2 (of_decide_eq_false hb18)
      refine y_skip ?_
      refine e_block_n ?_
      refine y_then (hK9 _ _ ?_)
      refine y_region ?_
      refine y_k (.int .i64 i3_2 : Value) w_8 rfl rfl rfl (by kernel_rfl) ?_
      refine y_k (.int .i64 (IntKind.i64.wrap (i3_2 + 1)) : Value) w_8 rfl rfl rfl (by kernel_rfl) ?_
      refine y_k (.int .i64 (IntKind.i64.wrap (i3_2 + 1)) : Value) w_8 rfl rfl rfl (by kernel_rfl) ?_
      refine y_nil ?_
      refine y_then (hN6 (IntKind.i64.wrap (i3_2 + 1)) _ _ h ?_)
      dsimp only
      refine upd_id ?_ rfl
      refine upd_id ?_ rfl
      rfl
  · replace h := h.2 (of_decide_eq_false hb21)
    refine y_exit ?_
    repeat (first | refine e_then_x ?_ | refine e_block_y rfl ?_)
    refine e_block_x ?_
    refine y_then (hK2 _ _ ?_)
    refine y_seq fun K20 hK20 => ?_
    refine y_region ?_
    refine y_k (.bool true : Value) w_3 rfl rfl rfl (by kernel_rfl) ?_
    refine y_nil ?_
    refine y_then (hK20 _ _ ?_)
    refine y_ret ?_
    repeat (first | refine e_then_r ?_ | refine e_block_r ?_)
    exact (hQ0 _ _ _ (res1 (v := (.bool true : Value)) rfl rfl rfl) ⟨_, rfl, h⟩).1

def F68_l1 (l0_1 : Sl) (n1_2 : Int) (K : Bool → World → Prop) (next5 : (Int) → World → Prop) : (Int) → World → Prop := fun (i5_3) w_4 =>
  ((i5_3 < ((l0_1.n : Int)) →
  (0 : Int) ≤ i5_3 ∧ i5_3 < (l0_1.n : Int) ∧ ∃ (a_5 : Addr), l0_1.a = some a_5 ∧
  ∃ (t15_6 : Int), w_4.cell? (a_5.add (Int.toNat i5_3)) = some (.int .u32 t15_6) ∧
  ((t15_6 = n1_2 →
  K true w_4) ∧
  (¬ t15_6 = n1_2 →
  next5 (IntKind.i64.wrap (i5_3 + 1)) w_4))) ∧
  (¬ (i5_3 < ((l0_1.n : Int))) →
  K false w_4))
/-- turnkey/turnkeyref12.in -/
def F68 (l0_1 : Sl) (n1_2 : Int) (K : Bool → World → Prop) (w : World) : Prop :=
  kLoop (F68_l1 l0_1 n1_2 K) (0) w
set_option maxHeartbeats 4000000 in
set_option maxRecDepth 20000 in
theorem F68_sound (l0_1 : Sl) (n1_2 : Int) (K : Bool → World → Prop) (w : World) (h : F68 l0_1 n1_2 K w) :
    Calls Try.prog 68 #[.slice l0_1.a l0_1.n l0_1.c, .int .u32 n1_2] w (fun e w1 => ∃ (r0 : Bool), e = .returned (.bool r0 : Value) ∧ K r0 w1) := by
  unfold F68 at h
  refine y_enter (n := 18) (args := [.slice l0_1.a l0_1.n l0_1.c, .int .u32 n1_2]) Try.func68 rfl rfl rfl fun Q0 hQ0 => ?_
  refine y_seq fun K1 hK1 => ?_
  refine y_region ?_
  refine y_k (.bool false : Value) w rfl rfl rfl (by kernel_rfl) ?_
  refine y_nil ?_
  refine y_then (hK1 _ _ ?_)
  refine y_seq fun K2 hK2 => ?_
  refine y_seq fun K3 hK3 => ?_
  refine y_region ?_
  refine y_k (.int .i64 0 : Value) w rfl rfl rfl (by kernel_rfl) ?_
  refine y_nil ?_
  refine y_then (hK3 _ _ ?_)
  refine y_block ?_
  refine y_loop (S := Int) (fun s j => match s with | (i5_3) => upd (upd (upd (j) 0 (.slice l0_1.a l0_1.n l0_1.c : Value)) 1 (.int .u32 n1_2 : Value)) 5 (.int .i64 i5_3 : Value)) (0) ?_ h ?_
  · dsimp only
    refine upd_id ?_ rfl
    refine upd_id ?_ rfl
    refine upd_id ?_ rfl
    rfl
  rintro KN6 next5 hN6 i5_3 j w_4 h
  unfold F68_l1 at h
  refine y_seq fun K7 hK7 => ?_
  refine y_seq fun K8 hK8 => ?_
  refine y_region ?_
  refine y_k (.int .i64 i5_3 : Value) w_4 rfl rfl rfl (by kernel_rfl) ?_
  refine y_k (.slice l0_1.a l0_1.n l0_1.c : Value) w_4 rfl rfl rfl (by kernel_rfl) ?_
  refine y_k (.int .i64 ((l0_1.n : Int)) : Value) w_4 rfl rfl rfl (by kernel_rfl) ?_
  refine y_k (.bool (decide (i5_3 < ((l0_1.n : Int)))) : Value) w_4 rfl rfl rfl (by kernel_rfl) ?_
  refine y_nil ?_
  refine y_then (hK8 _ _ ?_)
  refine y_cond (decide (i5_3 < ((l0_1.n : Int)))) rfl rfl (fun hb17 => ?_) (fun hb17 => ?_)
  · replace h := h.1 (of_decide_eq_true hb17)
    refine y_skip ?_
    refine y_then (hK7 _ _ ?_)
    refine y_seq fun K9 hK9 => ?_
    refine y_block ?_
    refine y_seq fun K11 hK11 => ?_
    refine y_region ?_
    refine y_k (.slice l0_1.a l0_1.n l0_1.c : Value) w_4 rfl rfl rfl (by kernel_rfl) ?_
    refine y_k (.int .i64 i5_3 : Value) w_4 rfl rfl rfl (by kernel_rfl) ?_
    obtain ⟨hx12a, hx12b, a_5, hx12, h⟩ := h
    refine y_v (v := (.pointer (some (a_5.add (Int.toNat i5_3))) : Value)) (s := Instr.indexAt 22 (.slice l0_1.a l0_1.n l0_1.c : Value) (.int .i64 i5_3 : Value)) rfl rfl rfl (by kernel_rfl) (run_ixs1 (el := 23) (by kernel_rfl) (by kernel_rfl) hx12 hx12a hx12b) ?_
    obtain ⟨t15_6, hx13, h⟩ := h
    refine y_v (s := Instr.loadAt 23 (.pointer (some (a_5.add (Int.toNat i5_3))))) rfl rfl rfl (by kernel_rfl) (rn_load (by kernel_rfl) hx13) ?_
    refine y_k (.int .u32 n1_2 : Value) w_4 rfl rfl rfl (by kernel_rfl) ?_
    refine y_k (.bool ((t15_6 == n1_2)) : Value) w_4 rfl rfl rfl (by kernel_rfl) ?_
    refine y_nil ?_
    refine y_then (hK11 _ _ ?_)
    refine y_cond ((t15_6 == n1_2)) rfl rfl (fun hb15 => ?_) (fun hb15 => ?_)
    · replace h := h.1 (eq_of_beq hb15)
      refine y_seq fun K14 hK14 => ?_
      refine y_region ?_
      refine y_k (.bool true : Value) w_4 rfl rfl rfl (by kernel_rfl) ?_
      refine y_nil ?_
      refine y_then (hK14 _ _ ?_)
      refine y_ret ?_
      repeat (first | refine e_then_r ?_ | refine e_block_r ?_)
      exact (hQ0 _ _ _ (res1 (v := (.bool true : Value)) rfl rfl rfl) ⟨_, rfl, h⟩).1
    · replace h := h.2 (beq_eq_false_iff_ne.mp hb15)
      refine y_skip ?_
      refine e_block_n ?_
      refine y_then (hK9 _ _ ?_)
      refine y_region ?_
      refine y_k (.int .i64 i5_3 : Value) w_4 rfl rfl rfl (by kernel_rfl) ?_
      refine y_k (.int .i64 (IntKind.i64.wrap (i5_3 + 1)) : Value) w_4 rfl rfl rfl (by kernel_rfl) ?_
      refine y_k (.int .i64 (IntKind.i64.wrap (i5_3 + 1)) : Value) w_4 rfl rfl rfl (by kernel_rfl) ?_
      refine y_nil ?_
      refine y_then (hN6 (IntKind.i64.wrap (i5_3 + 1)) _ _ h ?_)
      dsimp only
      refine upd_id ?_ rfl
      refine upd_id ?_ rfl
      refine upd_id ?_ rfl
      rfl
  · replace h := h.2 (of_decide_eq_false hb17)
    refine y_exit ?_
    repeat (first | refine e_then_x ?_ | refine e_block_y rfl ?_)
    refine e_block_x ?_
    refine y_then (hK2 _ _ ?_)
    refine y_seq fun K16 hK16 => ?_
    refine y_region ?_
    refine y_k (.bool false : Value) w_4 rfl rfl rfl (by kernel_rfl) ?_
    refine y_nil ?_
    refine y_then (hK16 _ _ ?_)
    refine y_ret ?_
    repeat (first | refine e_then_r ?_ | refine e_block_r ?_)
    exact (hQ0 _ _ _ (res1 (v := (.bool false : Value)) rfl rfl rfl) ⟨_, rfl, h⟩).1

def F67_j1 (K : Bool → World → Prop) (t4_7 : Bool) (w_8 : World) : Prop :=
  K t4_7 w_8
/-- turnkey/turnkeyref12.both -/
def F67 (a0_1 : Sl) (b1_2 : Sl) (K : Bool → World → Prop) (w : World) : Prop :=
  Calls Try.prog 35 #[.slice a0_1.a a0_1.n a0_1.c] w fun e w_4 => ∃ (t8_3 : Bool), e = .returned (.bool t8_3 : Value) ∧
  Calls Try.prog 35 #[.slice b1_2.a b1_2.n b1_2.c] w_4 fun e w_6 => ∃ (t10_5 : Bool), e = .returned (.bool t10_5 : Value) ∧
  ((t8_3 = true →
  F67_j1 K t10_5 w_6) ∧
  (t8_3 = false →
  F67_j1 K false w_6))
set_option maxHeartbeats 4000000 in
set_option maxRecDepth 20000 in
theorem F67_sound (a0_1 : Sl) (b1_2 : Sl) (K : Bool → World → Prop) (w : World) (h : F67 a0_1 b1_2 K w) :
    Calls Try.prog 67 #[.slice a0_1.a a0_1.n a0_1.c, .slice b1_2.a b1_2.n b1_2.c] w (fun e w1 => ∃ (r0 : Bool), e = .returned (.bool r0 : Value) ∧ K r0 w1) := by
  unfold F67 at h
  refine y_enter (n := 15) (args := [.slice a0_1.a a0_1.n a0_1.c, .slice b1_2.a b1_2.n b1_2.c]) Try.func67 rfl rfl rfl fun Q0 hQ0 => ?_
  refine y_seq fun K1 hK1 => ?_
  refine y_region ?_
  refine y_k (.bool false : Value) w rfl rfl rfl (by kernel_rfl) ?_
  refine y_nil ?_
  refine y_then (hK1 _ _ ?_)
  refine y_seq fun K2 hK2 => ?_
  refine y_region ?_
  refine y_k (.slice a0_1.a a0_1.n a0_1.c : Value) w rfl rfl rfl (by kernel_rfl) ?_
  refine y_call rfl rfl rfl (by kernel_rfl) (h.mono ?_)
  rintro _ w_4 ⟨t8_3, rfl, h⟩
  refine ⟨_, rfl, ?_⟩
  refine y_k (.bool t8_3 : Value) w_4 rfl rfl rfl (by kernel_rfl) ?_
  refine y_nil ?_
  refine y_then (hK2 _ _ ?_)
  refine y_seq fun K3 hK3 => ?_
  refine y_region ?_
  refine y_k (.slice b1_2.a b1_2.n b1_2.c : Value) w_4 rfl rfl rfl (by kernel_rfl) ?_
  refine y_call rfl rfl rfl (by kernel_rfl) (h.mono ?_)
  rintro _ w_6 ⟨t10_5, rfl, h⟩
  refine ⟨_, rfl, ?_⟩
  refine y_k (.bool t10_5 : Value) w_6 rfl rfl rfl (by kernel_rfl) ?_
  refine y_nil ?_
  refine y_then (hK3 _ _ ?_)
  refine y_seq fun K4 hK4 => ?_
  have hjK4 : ∀ (f : Fr) (t4_7 : Bool) (w_8 : World), f 4 = (.bool t4_7 : Value) → F67_j1 K t4_7 w_8 → WK K4 15 f w_8 := by
    intro f t4_7 w_8 e4 h
    refine y_atf (upd_id rfl e4) ?_
    clear e4
    unfold F67_j1 at h
    refine hK4 _ _ ?_
    refine y_ret ?_
    repeat (first | refine e_then_r ?_ | refine e_block_r ?_)
    exact (hQ0 _ _ _ (res1 (v := (.bool t4_7 : Value)) rfl rfl rfl) ⟨_, rfl, h⟩).1
  refine y_region ?_
  refine y_k (.bool t8_3 : Value) w_6 rfl rfl rfl (by kernel_rfl) ?_
  refine y_k (.bool t8_3 : Value) w_6 rfl rfl rfl (by kernel_rfl) ?_
  refine y_fork (t8_3) (fun hb5 => ?_) (fun hb5 => ?_)
  · replace h := h.1 (hb5)
    refine y_frame (upd_id (i := 12) (v := .bool true) rfl (congrArg Value.bool hb5)) ?_
    refine y_gyes rfl rfl rfl ?_
    refine y_k (.bool t10_5 : Value) w_6 rfl rfl rfl (by kernel_rfl) ?_
    refine y_k (.bool t10_5 : Value) w_6 rfl rfl rfl (by kernel_rfl) ?_
    refine y_k (.bool t10_5 : Value) w_6 rfl rfl rfl (by kernel_rfl) ?_
    refine y_nil ?_
    exact y_then (hjK4 _ t10_5 w_6 rfl h)
  · replace h := h.2 (hb5)
    refine y_frame (upd_id (i := 12) (v := .bool false) rfl (congrArg Value.bool hb5)) ?_
    refine y_gno rfl rfl rfl rfl ?_
    refine y_k (.bool false : Value) w_6 rfl rfl rfl (by kernel_rfl) ?_
    refine y_k (.bool false : Value) w_6 rfl rfl rfl (by kernel_rfl) ?_
    refine y_nil ?_
    exact y_then (hjK4 _ false w_6 rfl h)

def F24_j2 (i7_6 : Int) (next7 : (Sl × Int) → World → Prop) (out5_17 : Sl) (w_18 : World) : Prop :=
  next7 (out5_17, IntKind.i64.wrap (i7_6 + 1)) w_18
def F24_l1 (a0_1 : Sl) (b1_2 : Sl) (K : Sl → World → Prop) (t11_3 : Bool) (next7 : (Sl × Int) → World → Prop) : (Sl × Int) → World → Prop := fun (out5_5, i7_6) w_7 =>
  ((t11_3 = true →
  ((i7_6 < ((a0_1.n : Int)) →
  (0 : Int) ≤ i7_6 ∧ i7_6 < (a0_1.n : Int) ∧ ∃ (a_8 : Addr), a0_1.a = some a_8 ∧
  ∃ (t25_9 : Int), w_7.cell? (a_8.add (Int.toNat i7_6)) = some (.int .u32 t25_9) ∧
  Calls Try.prog 68 #[.slice b1_2.a b1_2.n b1_2.c, .int .u32 t25_9] w_7 fun e w_11 => ∃ (t26_10 : Bool), e = .returned (.bool t26_10 : Value) ∧
  ((t26_10 = true →
  (0 : Int) ≤ i7_6 ∧ i7_6 < (a0_1.n : Int) ∧ ∃ (a_12 : Addr), a0_1.a = some a_12 ∧
  ∃ (t32_13 : Int), w_11.cell? (a_12.add (Int.toNat i7_6)) = some (.int .u32 t32_13) ∧
  ∀ (w_14 : World), w_14 = w_11.alloc (.cells #[.int .u32 t32_13] 23) →
  ∃ (t34_15 : Sl), ∃ (w_16 : World), (Builtin.append_ #[22, 22] 22 #[.slice out5_5.a out5_5.n out5_5.c, .slice (some ⟨w_11.heap.size, 0, none⟩) 1 1]).run Try.prog w_14 = .ok (.slice t34_15.a t34_15.n t34_15.c : Value) w_16 ∧
  F24_j2 i7_6 next7 t34_15 w_16) ∧
  (t26_10 = false →
  F24_j2 i7_6 next7 out5_5 w_11))) ∧
  (¬ (i7_6 < ((a0_1.n : Int))) →
  K out5_5 w_7))) ∧
  (t11_3 = false →
  K out5_5 w_7))
/-- turnkey/turnkeyref12.And -/
def F24 (a0_1 : Sl) (b1_2 : Sl) (K : Sl → World → Prop) (w : World) : Prop :=
  Calls Try.prog 67 #[.slice a0_1.a a0_1.n a0_1.c, .slice b1_2.a b1_2.n b1_2.c] w fun e w_4 => ∃ (t11_3 : Bool), e = .returned (.bool t11_3 : Value) ∧
  kLoop (F24_l1 a0_1 b1_2 K t11_3) (⟨none, 0, 0⟩, 0) w_4
set_option maxHeartbeats 4000000 in
set_option maxRecDepth 20000 in
theorem F24_sound (a0_1 : Sl) (b1_2 : Sl) (K : Sl → World → Prop) (w : World) (h : F24 a0_1 b1_2 K w) :
    Calls Try.prog 24 #[.slice a0_1.a a0_1.n a0_1.c, .slice b1_2.a b1_2.n b1_2.c] w (fun e w1 => ∃ (r0 : Sl), e = .returned (.slice r0.a r0.n r0.c : Value) ∧ K r0 w1) := by
  unfold F24 at h
  refine y_enter (n := 36) (args := [.slice a0_1.a a0_1.n a0_1.c, .slice b1_2.a b1_2.n b1_2.c]) Try.func24 rfl rfl rfl fun Q0 hQ0 => ?_
  refine y_seq fun K1 hK1 => ?_
  refine y_region ?_
  refine y_k (.slice none 0 0 : Value) w rfl rfl rfl (by kernel_rfl) ?_
  refine y_nil ?_
  refine y_then (hK1 _ _ ?_)
  refine y_seq fun K2 hK2 => ?_
  refine y_region ?_
  refine y_k (.slice none 0 0 : Value) w rfl rfl rfl (by kernel_rfl) ?_
  refine y_nil ?_
  refine y_then (hK2 _ _ ?_)
  refine y_seq fun K3 hK3 => ?_
  refine y_region ?_
  refine y_k (.slice a0_1.a a0_1.n a0_1.c : Value) w rfl rfl rfl (by kernel_rfl) ?_
  refine y_k (.slice b1_2.a b1_2.n b1_2.c : Value) w rfl rfl rfl (by kernel_rfl) ?_
  refine y_call rfl rfl rfl (by kernel_rfl) (h.mono ?_)
  rintro _ w_4 ⟨t11_3, rfl, h⟩
  refine ⟨_, rfl, ?_⟩
  refine y_k (.bool t11_3 : Value) w_4 rfl rfl rfl (by kernel_rfl) ?_
  refine y_nil ?_
  refine y_then (hK3 _ _ ?_)
  refine y_seq fun K4 hK4 => ?_
  refine y_seq fun K5 hK5 => ?_
  refine y_region ?_
  refine y_k (.int .i64 0 : Value) w_4 rfl rfl rfl (by kernel_rfl) ?_
  refine y_nil ?_
  refine y_then (hK5 _ _ ?_)
  refine y_block ?_
  refine y_loop (S := Sl × Int) (fun s j => match s with | (out5_5, i7_6) => upd (upd (upd (upd (upd (j) 0 (.slice a0_1.a a0_1.n a0_1.c : Value)) 1 (.slice b1_2.a b1_2.n b1_2.c : Value)) 5 (.slice out5_5.a out5_5.n out5_5.c : Value)) 6 (.bool t11_3 : Value)) 7 (.int .i64 i7_6 : Value)) (⟨none, 0, 0⟩, 0) ?_ h ?_
  · dsimp only
    refine upd_id ?_ rfl
    refine upd_id ?_ rfl
    refine upd_id ?_ rfl
    refine upd_id ?_ rfl
    refine upd_id ?_ rfl
    rfl
  rintro KN8 next7 hN8 ⟨out5_5, i7_6⟩ j w_7 h
  unfold F24_l1 at h
  refine y_seq fun K9 hK9 => ?_
  refine y_seq fun K10 hK10 => ?_
  refine y_region ?_
  refine y_k (.bool t11_3 : Value) w_7 rfl rfl rfl (by kernel_rfl) ?_
  refine y_k (.bool t11_3 : Value) w_7 rfl rfl rfl (by kernel_rfl) ?_
  refine y_fork (t11_3) (fun hb11 => ?_) (fun hb11 => ?_)
  · replace h := h.1 (hb11)
    refine y_frame (upd_id (i := 13) (v := .bool true) rfl (congrArg Value.bool hb11)) ?_
    refine y_gyes rfl rfl rfl ?_
    refine y_k (.int .i64 i7_6 : Value) w_7 rfl rfl rfl (by kernel_rfl) ?_
    refine y_gyes rfl rfl rfl ?_
    refine y_k (.slice a0_1.a a0_1.n a0_1.c : Value) w_7 rfl rfl rfl (by kernel_rfl) ?_
    refine y_gyes rfl rfl rfl ?_
    refine y_k (.int .i64 ((a0_1.n : Int)) : Value) w_7 rfl rfl rfl (by kernel_rfl) ?_
    refine y_gyes rfl rfl rfl ?_
    refine y_k (.bool (decide (i7_6 < ((a0_1.n : Int)))) : Value) w_7 rfl rfl rfl (by kernel_rfl) ?_
    refine y_k (.bool (decide (i7_6 < ((a0_1.n : Int)))) : Value) w_7 rfl rfl rfl (by kernel_rfl) ?_
    refine y_nil ?_
    refine y_then (hK10 _ _ ?_)
    refine y_cond (decide (i7_6 < ((a0_1.n : Int)))) rfl rfl (fun hb23 => ?_) (fun hb23 => ?_)
    · replace h := h.1 (of_decide_eq_true hb23)
      refine y_skip ?_
      refine y_then (hK9 _ _ ?_)
      refine y_seq fun K12 hK12 => ?_
      have hjK12 : ∀ (f : Fr) (out5_17 : Sl) (w_18 : World), f 0 = (.slice a0_1.a a0_1.n a0_1.c : Value) → f 1 = (.slice b1_2.a b1_2.n b1_2.c : Value) → f 5 = (.slice out5_17.a out5_17.n out5_17.c : Value) → f 6 = (.bool t11_3 : Value) → f 7 = (.int .i64 i7_6 : Value) → F24_j2 i7_6 next7 out5_17 w_18 → WK K12 36 f w_18 := by
        intro f out5_17 w_18 e0 e1 e5 e6 e7 h
        refine y_atf (upd_id (upd_id (upd_id (upd_id (upd_id rfl e0) e1) e5) e6) e7) ?_
        clear e0 e1 e5 e6 e7
        unfold F24_j2 at h
        refine hK12 _ _ ?_
        refine y_region ?_
        refine y_k (.int .i64 i7_6 : Value) w_18 rfl rfl rfl (by kernel_rfl) ?_
        refine y_k (.int .i64 (IntKind.i64.wrap (i7_6 + 1)) : Value) w_18 rfl rfl rfl (by kernel_rfl) ?_
        refine y_k (.int .i64 (IntKind.i64.wrap (i7_6 + 1)) : Value) w_18 rfl rfl rfl (by kernel_rfl) ?_
        refine y_nil ?_
        refine y_then (hN8 (out5_17, IntKind.i64.wrap (i7_6 + 1)) _ _ h ?_)
        dsimp only
        refine upd_id ?_ rfl
        refine upd_id ?_ rfl
        refine upd_id ?_ rfl
        refine upd_id ?_ rfl
        refine upd_id ?_ rfl
        rfl
      refine y_block ?_
      refine y_seq fun K14 hK14 => ?_
      refine y_region ?_
      refine y_k (.slice b1_2.a b1_2.n b1_2.c : Value) w_7 rfl rfl rfl (by kernel_rfl) ?_
      refine y_k (.slice a0_1.a a0_1.n a0_1.c : Value) w_7 rfl rfl rfl (by kernel_rfl) ?_
      refine y_k (.int .i64 i7_6 : Value) w_7 rfl rfl rfl (by kernel_rfl) ?_
      obtain ⟨hx15a, hx15b, a_8, hx15, h⟩ := h
      refine y_v (v := (.pointer (some (a_8.add (Int.toNat i7_6))) : Value)) (s := Instr.indexAt 22 (.slice a0_1.a a0_1.n a0_1.c : Value) (.int .i64 i7_6 : Value)) rfl rfl rfl (by kernel_rfl) (run_ixs1 (el := 23) (by kernel_rfl) (by kernel_rfl) hx15 hx15a hx15b) ?_
      obtain ⟨t25_9, hx16, h⟩ := h
      refine y_v (s := Instr.loadAt 23 (.pointer (some (a_8.add (Int.toNat i7_6))))) rfl rfl rfl (by kernel_rfl) (rn_load (by kernel_rfl) hx16) ?_
      refine y_call rfl rfl rfl (by kernel_rfl) (h.mono ?_)
      rintro _ w_11 ⟨t26_10, rfl, h⟩
      refine ⟨_, rfl, ?_⟩
      refine y_k (.bool t26_10 : Value) w_11 rfl rfl rfl (by kernel_rfl) ?_
      refine y_nil ?_
      refine y_then (hK14 _ _ ?_)
      refine y_seq fun K17 hK17 => ?_
      refine y_region ?_
      refine y_k (.bool t26_10 : Value) w_11 rfl rfl rfl (by kernel_rfl) ?_
      refine y_nil ?_
      refine y_then (hK17 _ _ ?_)
      refine y_cond (t26_10) rfl rfl (fun hb21 => ?_) (fun hb21 => ?_)
      · replace h := h.1 (hb21)
        refine y_region ?_
        refine y_k (.slice out5_5.a out5_5.n out5_5.c : Value) w_11 rfl rfl rfl (by kernel_rfl) ?_
        refine y_k (.slice a0_1.a a0_1.n a0_1.c : Value) w_11 rfl rfl rfl (by kernel_rfl) ?_
        refine y_k (.int .i64 i7_6 : Value) w_11 rfl rfl rfl (by kernel_rfl) ?_
        obtain ⟨hx18a, hx18b, a_12, hx18, h⟩ := h
        refine y_v (v := (.pointer (some (a_12.add (Int.toNat i7_6))) : Value)) (s := Instr.indexAt 22 (.slice a0_1.a a0_1.n a0_1.c : Value) (.int .i64 i7_6 : Value)) rfl rfl rfl (by kernel_rfl) (run_ixs1 (el := 23) (by kernel_rfl) (by kernel_rfl) hx18 hx18a hx18b) ?_
        obtain ⟨t32_13, hx19, h⟩ := h
        refine y_v (s := Instr.loadAt 23 (.pointer (some (a_12.add (Int.toNat i7_6))))) rfl rfl rfl (by kernel_rfl) (rn_load (by kernel_rfl) hx19) ?_
        refine y_k (.slice (some ⟨w_11.heap.size, 0, none⟩) 1 1 : Value) (w_11.alloc (.cells #[.int .u32 t32_13] 23)) rfl rfl rfl (by kernel_rfl) ?_
        replace h := h _ rfl
        generalize w_11.alloc (.cells #[.int .u32 t32_13] 23) = w_14 at h ⊢
        obtain ⟨t34_15, w_16, hx20, h⟩ := h
        refine y_v (s := Builtin.append_ #[22, 22] 22 #[.slice out5_5.a out5_5.n out5_5.c, .slice (some ⟨w_11.heap.size, 0, none⟩) 1 1]) rfl rfl rfl (by kernel_rfl) hx20 ?_
        refine y_k (.slice t34_15.a t34_15.n t34_15.c : Value) w_16 rfl rfl rfl (by kernel_rfl) ?_
        refine y_nil ?_
        refine e_block_n ?_
        exact y_then (hjK12 _ t34_15 w_16 rfl rfl rfl rfl rfl h)
      · replace h := h.2 (hb21)
        refine y_skip ?_
        refine e_block_n ?_
        exact y_then (hjK12 _ out5_5 w_11 rfl rfl rfl rfl rfl h)
    · replace h := h.2 (of_decide_eq_false hb23)
      refine y_exit ?_
      repeat (first | refine e_then_x ?_ | refine e_block_y rfl ?_)
      refine e_block_x ?_
      refine y_then (hK4 _ _ ?_)
      refine y_seq fun K22 hK22 => ?_
      refine y_region ?_
      refine y_k (.slice out5_5.a out5_5.n out5_5.c : Value) w_7 rfl rfl rfl (by kernel_rfl) ?_
      refine y_k (.slice out5_5.a out5_5.n out5_5.c : Value) w_7 rfl rfl rfl (by kernel_rfl) ?_
      refine y_nil ?_
      refine y_then (hK22 _ _ ?_)
      refine y_ret ?_
      repeat (first | refine e_then_r ?_ | refine e_block_r ?_)
      exact (hQ0 _ _ _ (res1 (v := (.slice out5_5.a out5_5.n out5_5.c : Value)) rfl rfl rfl) ⟨_, rfl, h⟩).1
  · replace h := h.2 (hb11)
    refine y_frame (upd_id (i := 13) (v := .bool false) rfl (congrArg Value.bool hb11)) ?_
    refine y_gno rfl rfl rfl rfl ?_
    refine y_gno rfl rfl rfl rfl ?_
    refine y_gno rfl rfl rfl rfl ?_
    refine y_gno rfl rfl rfl rfl ?_
    refine y_k (.bool false : Value) w_7 rfl rfl rfl (by kernel_rfl) ?_
    refine y_nil ?_
    refine y_then (hK10 _ _ ?_)
    refine y_cond_f rfl rfl ?_
    refine y_exit ?_
    repeat (first | refine e_then_x ?_ | refine e_block_y rfl ?_)
    refine e_block_x ?_
    refine y_then (hK4 _ _ ?_)
    refine y_seq fun K24 hK24 => ?_
    refine y_region ?_
    refine y_k (.slice out5_5.a out5_5.n out5_5.c : Value) w_7 rfl rfl rfl (by kernel_rfl) ?_
    refine y_k (.slice out5_5.a out5_5.n out5_5.c : Value) w_7 rfl rfl rfl (by kernel_rfl) ?_
    refine y_nil ?_
    refine y_then (hK24 _ _ ?_)
    refine y_ret ?_
    repeat (first | refine e_then_r ?_ | refine e_block_r ?_)
    exact (hQ0 _ _ _ (res1 (v := (.slice out5_5.a out5_5.n out5_5.c : Value)) rfl rfl rfl) ⟨_, rfl, h⟩).1

def F26_j2 (i7_6 : Int) (next7 : (Sl × Int) → World → Prop) (out5_17 : Sl) (w_18 : World) : Prop :=
  next7 (out5_17, IntKind.i64.wrap (i7_6 + 1)) w_18
def F26_l1 (a0_1 : Sl) (b1_2 : Sl) (K : Sl → World → Prop) (t11_3 : Bool) (next7 : (Sl × Int) → World → Prop) : (Sl × Int) → World → Prop := fun (out5_5, i7_6) w_7 =>
  ((t11_3 = true →
  ((i7_6 < ((a0_1.n : Int)) →
  (0 : Int) ≤ i7_6 ∧ i7_6 < (a0_1.n : Int) ∧ ∃ (a_8 : Addr), a0_1.a = some a_8 ∧
  ∃ (t25_9 : Int), w_7.cell? (a_8.add (Int.toNat i7_6)) = some (.int .u32 t25_9) ∧
  Calls Try.prog 68 #[.slice b1_2.a b1_2.n b1_2.c, .int .u32 t25_9] w_7 fun e w_11 => ∃ (t26_10 : Bool), e = .returned (.bool t26_10 : Value) ∧
  ((t26_10 = false →
  (0 : Int) ≤ i7_6 ∧ i7_6 < (a0_1.n : Int) ∧ ∃ (a_12 : Addr), a0_1.a = some a_12 ∧
  ∃ (t33_13 : Int), w_11.cell? (a_12.add (Int.toNat i7_6)) = some (.int .u32 t33_13) ∧
  ∀ (w_14 : World), w_14 = w_11.alloc (.cells #[.int .u32 t33_13] 23) →
  ∃ (t35_15 : Sl), ∃ (w_16 : World), (Builtin.append_ #[22, 22] 22 #[.slice out5_5.a out5_5.n out5_5.c, .slice (some ⟨w_11.heap.size, 0, none⟩) 1 1]).run Try.prog w_14 = .ok (.slice t35_15.a t35_15.n t35_15.c : Value) w_16 ∧
  F26_j2 i7_6 next7 t35_15 w_16) ∧
  (t26_10 = true →
  F26_j2 i7_6 next7 out5_5 w_11))) ∧
  (¬ (i7_6 < ((a0_1.n : Int))) →
  K out5_5 w_7))) ∧
  (t11_3 = false →
  K out5_5 w_7))
/-- turnkey/turnkeyref12.Not -/
def F26 (a0_1 : Sl) (b1_2 : Sl) (K : Sl → World → Prop) (w : World) : Prop :=
  Calls Try.prog 67 #[.slice a0_1.a a0_1.n a0_1.c, .slice b1_2.a b1_2.n b1_2.c] w fun e w_4 => ∃ (t11_3 : Bool), e = .returned (.bool t11_3 : Value) ∧
  kLoop (F26_l1 a0_1 b1_2 K t11_3) (⟨none, 0, 0⟩, 0) w_4
set_option maxHeartbeats 4000000 in
set_option maxRecDepth 20000 in
theorem F26_sound (a0_1 : Sl) (b1_2 : Sl) (K : Sl → World → Prop) (w : World) (h : F26 a0_1 b1_2 K w) :
    Calls Try.prog 26 #[.slice a0_1.a a0_1.n a0_1.c, .slice b1_2.a b1_2.n b1_2.c] w (fun e w1 => ∃ (r0 : Sl), e = .returned (.slice r0.a r0.n r0.c : Value) ∧ K r0 w1) := by
  unfold F26 at h
  refine y_enter (n := 37) (args := [.slice a0_1.a a0_1.n a0_1.c, .slice b1_2.a b1_2.n b1_2.c]) Try.func26 rfl rfl rfl fun Q0 hQ0 => ?_
  refine y_seq fun K1 hK1 => ?_
  refine y_region ?_
  refine y_k (.slice none 0 0 : Value) w rfl rfl rfl (by kernel_rfl) ?_
  refine y_nil ?_
  refine y_then (hK1 _ _ ?_)
  refine y_seq fun K2 hK2 => ?_
  refine y_region ?_
  refine y_k (.slice none 0 0 : Value) w rfl rfl rfl (by kernel_rfl) ?_
  refine y_nil ?_
  refine y_then (hK2 _ _ ?_)
  refine y_seq fun K3 hK3 => ?_
  refine y_region ?_
  refine y_k (.slice a0_1.a a0_1.n a0_1.c : Value) w rfl rfl rfl (by kernel_rfl) ?_
  refine y_k (.slice b1_2.a b1_2.n b1_2.c : Value) w rfl rfl rfl (by kernel_rfl) ?_
  refine y_call rfl rfl rfl (by kernel_rfl) (h.mono ?_)
  rintro _ w_4 ⟨t11_3, rfl, h⟩
  refine ⟨_, rfl, ?_⟩
  refine y_k (.bool t11_3 : Value) w_4 rfl rfl rfl (by kernel_rfl) ?_
  refine y_nil ?_
  refine y_then (hK3 _ _ ?_)
  refine y_seq fun K4 hK4 => ?_
  refine y_seq fun K5 hK5 => ?_
  refine y_region ?_
  refine y_k (.int .i64 0 : Value) w_4 rfl rfl rfl (by kernel_rfl) ?_
  refine y_nil ?_
  refine y_then (hK5 _ _ ?_)
  refine y_block ?_
  refine y_loop (S := Sl × Int) (fun s j => match s with | (out5_5, i7_6) => upd (upd (upd (upd (upd (j) 0 (.slice a0_1.a a0_1.n a0_1.c : Value)) 1 (.slice b1_2.a b1_2.n b1_2.c : Value)) 5 (.slice out5_5.a out5_5.n out5_5.c : Value)) 6 (.bool t11_3 : Value)) 7 (.int .i64 i7_6 : Value)) (⟨none, 0, 0⟩, 0) ?_ h ?_
  · dsimp only
    refine upd_id ?_ rfl
    refine upd_id ?_ rfl
    refine upd_id ?_ rfl
    refine upd_id ?_ rfl
    refine upd_id ?_ rfl
    rfl
  rintro KN8 next7 hN8 ⟨out5_5, i7_6⟩ j w_7 h
  unfold F26_l1 at h
  refine y_seq fun K9 hK9 => ?_
  refine y_seq fun K10 hK10 => ?_
  refine y_region ?_
  refine y_k (.bool t11_3 : Value) w_7 rfl rfl rfl (by kernel_rfl) ?_
  refine y_k (.bool t11_3 : Value) w_7 rfl rfl rfl (by kernel_rfl) ?_
  refine y_fork (t11_3) (fun hb11 => ?_) (fun hb11 => ?_)
  · replace h := h.1 (hb11)
    refine y_frame (upd_id (i := 13) (v := .bool true) rfl (congrArg Value.bool hb11)) ?_
    refine y_gyes rfl rfl rfl ?_
    refine y_k (.int .i64 i7_6 : Value) w_7 rfl rfl rfl (by kernel_rfl) ?_
    refine y_gyes rfl rfl rfl ?_
    refine y_k (.slice a0_1.a a0_1.n a0_1.c : Value) w_7 rfl rfl rfl (by kernel_rfl) ?_
    refine y_gyes rfl rfl rfl ?_
    refine y_k (.int .i64 ((a0_1.n : Int)) : Value) w_7 rfl rfl rfl (by kernel_rfl) ?_
    refine y_gyes rfl rfl rfl ?_
    refine y_k (.bool (decide (i7_6 < ((a0_1.n : Int)))) : Value) w_7 rfl rfl rfl (by kernel_rfl) ?_
    refine y_k (.bool (decide (i7_6 < ((a0_1.n : Int)))) : Value) w_7 rfl rfl rfl (by kernel_rfl) ?_
    refine y_nil ?_
    refine y_then (hK10 _ _ ?_)
    refine y_cond (decide (i7_6 < ((a0_1.n : Int)))) rfl rfl (fun hb23 => ?_) (fun hb23 => ?_)
    · replace h := h.1 (of_decide_eq_true hb23)
      refine y_skip ?_
      refine y_then (hK9 _ _ ?_)
      refine y_seq fun K12 hK12 => ?_
      have hjK12 : ∀ (f : Fr) (out5_17 : Sl) (w_18 : World), f 0 = (.slice a0_1.a a0_1.n a0_1.c : Value) → f 1 = (.slice b1_2.a b1_2.n b1_2.c : Value) → f 5 = (.slice out5_17.a out5_17.n out5_17.c : Value) → f 6 = (.bool t11_3 : Value) → f 7 = (.int .i64 i7_6 : Value) → F26_j2 i7_6 next7 out5_17 w_18 → WK K12 37 f w_18 := by
        intro f out5_17 w_18 e0 e1 e5 e6 e7 h
        refine y_atf (upd_id (upd_id (upd_id (upd_id (upd_id rfl e0) e1) e5) e6) e7) ?_
        clear e0 e1 e5 e6 e7
        unfold F26_j2 at h
        refine hK12 _ _ ?_
        refine y_region ?_
        refine y_k (.int .i64 i7_6 : Value) w_18 rfl rfl rfl (by kernel_rfl) ?_
        refine y_k (.int .i64 (IntKind.i64.wrap (i7_6 + 1)) : Value) w_18 rfl rfl rfl (by kernel_rfl) ?_
        refine y_k (.int .i64 (IntKind.i64.wrap (i7_6 + 1)) : Value) w_18 rfl rfl rfl (by kernel_rfl) ?_
        refine y_nil ?_
        refine y_then (hN8 (out5_17, IntKind.i64.wrap (i7_6 + 1)) _ _ h ?_)
        dsimp only
        refine upd_id ?_ rfl
        refine upd_id ?_ rfl
        refine upd_id ?_ rfl
        refine upd_id ?_ rfl
        refine upd_id ?_ rfl
        rfl
      refine y_block ?_
      refine y_seq fun K14 hK14 => ?_
      refine y_region ?_
      refine y_k (.slice b1_2.a b1_2.n b1_2.c : Value) w_7 rfl rfl rfl (by kernel_rfl) ?_
      refine y_k (.slice a0_1.a a0_1.n a0_1.c : Value) w_7 rfl rfl rfl (by kernel_rfl) ?_
      refine y_k (.int .i64 i7_6 : Value) w_7 rfl rfl rfl (by kernel_rfl) ?_
      obtain ⟨hx15a, hx15b, a_8, hx15, h⟩ := h
      refine y_v (v := (.pointer (some (a_8.add (Int.toNat i7_6))) : Value)) (s := Instr.indexAt 22 (.slice a0_1.a a0_1.n a0_1.c : Value) (.int .i64 i7_6 : Value)) rfl rfl rfl (by kernel_rfl) (run_ixs1 (el := 23) (by kernel_rfl) (by kernel_rfl) hx15 hx15a hx15b) ?_
      obtain ⟨t25_9, hx16, h⟩ := h
      refine y_v (s := Instr.loadAt 23 (.pointer (some (a_8.add (Int.toNat i7_6))))) rfl rfl rfl (by kernel_rfl) (rn_load (by kernel_rfl) hx16) ?_
      refine y_call rfl rfl rfl (by kernel_rfl) (h.mono ?_)
      rintro _ w_11 ⟨t26_10, rfl, h⟩
      refine ⟨_, rfl, ?_⟩
      refine y_k (.bool t26_10 : Value) w_11 rfl rfl rfl (by kernel_rfl) ?_
      refine y_nil ?_
      refine y_then (hK14 _ _ ?_)
      refine y_seq fun K17 hK17 => ?_
      refine y_region ?_
      refine y_k (.bool t26_10 : Value) w_11 rfl rfl rfl (by kernel_rfl) ?_
      refine y_k (.bool (!(t26_10)) : Value) w_11 rfl rfl rfl (by kernel_rfl) ?_
      refine y_nil ?_
      refine y_then (hK17 _ _ ?_)
      refine y_cond (!(t26_10)) rfl rfl (fun hb21 => ?_) (fun hb21 => ?_)
      · replace h := h.1 ((not_true_of hb21))
        refine y_region ?_
        refine y_k (.slice out5_5.a out5_5.n out5_5.c : Value) w_11 rfl rfl rfl (by kernel_rfl) ?_
        refine y_k (.slice a0_1.a a0_1.n a0_1.c : Value) w_11 rfl rfl rfl (by kernel_rfl) ?_
        refine y_k (.int .i64 i7_6 : Value) w_11 rfl rfl rfl (by kernel_rfl) ?_
        obtain ⟨hx18a, hx18b, a_12, hx18, h⟩ := h
        refine y_v (v := (.pointer (some (a_12.add (Int.toNat i7_6))) : Value)) (s := Instr.indexAt 22 (.slice a0_1.a a0_1.n a0_1.c : Value) (.int .i64 i7_6 : Value)) rfl rfl rfl (by kernel_rfl) (run_ixs1 (el := 23) (by kernel_rfl) (by kernel_rfl) hx18 hx18a hx18b) ?_
        obtain ⟨t33_13, hx19, h⟩ := h
        refine y_v (s := Instr.loadAt 23 (.pointer (some (a_12.add (Int.toNat i7_6))))) rfl rfl rfl (by kernel_rfl) (rn_load (by kernel_rfl) hx19) ?_
        refine y_k (.slice (some ⟨w_11.heap.size, 0, none⟩) 1 1 : Value) (w_11.alloc (.cells #[.int .u32 t33_13] 23)) rfl rfl rfl (by kernel_rfl) ?_
        replace h := h _ rfl
        generalize w_11.alloc (.cells #[.int .u32 t33_13] 23) = w_14 at h ⊢
        obtain ⟨t35_15, w_16, hx20, h⟩ := h
        refine y_v (s := Builtin.append_ #[22, 22] 22 #[.slice out5_5.a out5_5.n out5_5.c, .slice (some ⟨w_11.heap.size, 0, none⟩) 1 1]) rfl rfl rfl (by kernel_rfl) hx20 ?_
        refine y_k (.slice t35_15.a t35_15.n t35_15.c : Value) w_16 rfl rfl rfl (by kernel_rfl) ?_
        refine y_nil ?_
        refine e_block_n ?_
        exact y_then (hjK12 _ t35_15 w_16 rfl rfl rfl rfl rfl h)
      · replace h := h.2 ((not_false_of hb21))
        refine y_skip ?_
        refine e_block_n ?_
        exact y_then (hjK12 _ out5_5 w_11 rfl rfl rfl rfl rfl h)
    · replace h := h.2 (of_decide_eq_false hb23)
      refine y_exit ?_
      repeat (first | refine e_then_x ?_ | refine e_block_y rfl ?_)
      refine e_block_x ?_
      refine y_then (hK4 _ _ ?_)
      refine y_seq fun K22 hK22 => ?_
      refine y_region ?_
      refine y_k (.slice out5_5.a out5_5.n out5_5.c : Value) w_7 rfl rfl rfl (by kernel_rfl) ?_
      refine y_k (.slice out5_5.a out5_5.n out5_5.c : Value) w_7 rfl rfl rfl (by kernel_rfl) ?_
      refine y_nil ?_
      refine y_then (hK22 _ _ ?_)
      refine y_ret ?_
      repeat (first | refine e_then_r ?_ | refine e_block_r ?_)
      exact (hQ0 _ _ _ (res1 (v := (.slice out5_5.a out5_5.n out5_5.c : Value)) rfl rfl rfl) ⟨_, rfl, h⟩).1
  · replace h := h.2 (hb11)
    refine y_frame (upd_id (i := 13) (v := .bool false) rfl (congrArg Value.bool hb11)) ?_
    refine y_gno rfl rfl rfl rfl ?_
    refine y_gno rfl rfl rfl rfl ?_
    refine y_gno rfl rfl rfl rfl ?_
    refine y_gno rfl rfl rfl rfl ?_
    refine y_k (.bool false : Value) w_7 rfl rfl rfl (by kernel_rfl) ?_
    refine y_nil ?_
    refine y_then (hK10 _ _ ?_)
    refine y_cond_f rfl rfl ?_
    refine y_exit ?_
    repeat (first | refine e_then_x ?_ | refine e_block_y rfl ?_)
    refine e_block_x ?_
    refine y_then (hK4 _ _ ?_)
    refine y_seq fun K24 hK24 => ?_
    refine y_region ?_
    refine y_k (.slice out5_5.a out5_5.n out5_5.c : Value) w_7 rfl rfl rfl (by kernel_rfl) ?_
    refine y_k (.slice out5_5.a out5_5.n out5_5.c : Value) w_7 rfl rfl rfl (by kernel_rfl) ?_
    refine y_nil ?_
    refine y_then (hK24 _ _ ?_)
    refine y_ret ?_
    repeat (first | refine e_then_r ?_ | refine e_block_r ?_)
    exact (hQ0 _ _ _ (res1 (v := (.slice out5_5.a out5_5.n out5_5.c : Value)) rfl rfl rfl) ⟨_, rfl, h⟩).1

def F25_l1 (b1_2 : Sl) (K : Sl → World → Prop) (next12 : (Sl × Int) → World → Prop) : (Sl × Int) → World → Prop := fun (out6_7, i7_8) w_9 =>
  ((i7_8 < ((b1_2.n : Int)) →
  (0 : Int) ≤ i7_8 ∧ i7_8 < (b1_2.n : Int) ∧ ∃ (a_10 : Addr), b1_2.a = some a_10 ∧
  ∃ (t27_11 : Int), w_9.cell? (a_10.add (Int.toNat i7_8)) = some (.int .u32 t27_11) ∧
  Calls Try.prog 21 #[.slice out6_7.a out6_7.n out6_7.c, .int .u32 t27_11] w_9 fun e w_14 => ∃ (t28_12 : Sl), ∃ (t28_13 : Bool), e = .returned (.tuple #[.slice t28_12.a t28_12.n t28_12.c, .bool t28_13] : Value) ∧
  next12 (t28_12, IntKind.i64.wrap (i7_8 + 1)) w_14) ∧
  (¬ (i7_8 < ((b1_2.n : Int))) →
  K out6_7 w_9))
/-- turnkey/turnkeyref12.Or -/
def F25 (a0_1 : Sl) (b1_2 : Sl) (K : Sl → World → Prop) (w : World) : Prop :=
  Calls Try.prog 67 #[.slice a0_1.a a0_1.n a0_1.c, .slice b1_2.a b1_2.n b1_2.c] w fun e w_4 => ∃ (t10_3 : Bool), e = .returned (.bool t10_3 : Value) ∧
  ((t10_3 = false →
  K (⟨none, 0, 0⟩) w_4) ∧
  (t10_3 = true →
  ∃ (t15_5 : Sl), ∃ (w_6 : World), (Builtin.append_ #[22, 22] 22 #[.slice none 0 0, .slice a0_1.a a0_1.n a0_1.c]).run Try.prog w_4 = .ok (.slice t15_5.a t15_5.n t15_5.c : Value) w_6 ∧
  kLoop (F25_l1 b1_2 K) (t15_5, 0) w_6))
set_option maxHeartbeats 4000000 in
set_option maxRecDepth 20000 in
theorem F25_sound (a0_1 : Sl) (b1_2 : Sl) (K : Sl → World → Prop) (w : World) (h : F25 a0_1 b1_2 K w) :
    Calls Try.prog 25 #[.slice a0_1.a a0_1.n a0_1.c, .slice b1_2.a b1_2.n b1_2.c] w (fun e w1 => ∃ (r0 : Sl), e = .returned (.slice r0.a r0.n r0.c : Value) ∧ K r0 w1) := by
  unfold F25 at h
  refine y_enter (n := 32) (args := [.slice a0_1.a a0_1.n a0_1.c, .slice b1_2.a b1_2.n b1_2.c]) Try.func25 rfl rfl rfl fun Q0 hQ0 => ?_
  refine y_seq fun K1 hK1 => ?_
  refine y_region ?_
  refine y_k (.slice none 0 0 : Value) w rfl rfl rfl (by kernel_rfl) ?_
  refine y_nil ?_
  refine y_then (hK1 _ _ ?_)
  refine y_seq fun K2 hK2 => ?_
  refine y_region ?_
  refine y_k (.slice a0_1.a a0_1.n a0_1.c : Value) w rfl rfl rfl (by kernel_rfl) ?_
  refine y_k (.slice b1_2.a b1_2.n b1_2.c : Value) w rfl rfl rfl (by kernel_rfl) ?_
  refine y_call rfl rfl rfl (by kernel_rfl) (h.mono ?_)
  rintro _ w_4 ⟨t10_3, rfl, h⟩
  refine ⟨_, rfl, ?_⟩
  refine y_k (.bool t10_3 : Value) w_4 rfl rfl rfl (by kernel_rfl) ?_
  refine y_nil ?_
  refine y_then (hK2 _ _ ?_)
  refine y_seq fun K3 hK3 => ?_
  refine y_seq fun K4 hK4 => ?_
  refine y_region ?_
  refine y_k (.bool t10_3 : Value) w_4 rfl rfl rfl (by kernel_rfl) ?_
  refine y_k (.bool (!(t10_3)) : Value) w_4 rfl rfl rfl (by kernel_rfl) ?_
  refine y_nil ?_
  refine y_then (hK4 _ _ ?_)
  refine y_cond (!(t10_3)) rfl rfl (fun hb22 => ?_) (fun hb22 => ?_)
  · replace h := h.1 ((not_true_of hb22))
    refine y_seq fun K5 hK5 => ?_
    refine y_region ?_
    refine y_k (.slice none 0 0 : Value) w_4 rfl rfl rfl (by kernel_rfl) ?_
    refine y_nil ?_
    refine y_then (hK5 _ _ ?_)
    refine y_ret ?_
    repeat (first | refine e_then_r ?_ | refine e_block_r ?_)
    exact (hQ0 _ _ _ (res1 (v := (.slice none 0 0 : Value)) rfl rfl rfl) ⟨_, rfl, h⟩).1
  · replace h := h.2 ((not_false_of hb22))
    refine y_skip ?_
    refine y_then (hK3 _ _ ?_)
    refine y_seq fun K6 hK6 => ?_
    refine y_region ?_
    refine y_k (.slice none 0 0 : Value) w_4 rfl rfl rfl (by kernel_rfl) ?_
    refine y_nil ?_
    refine y_then (hK6 _ _ ?_)
    refine y_seq fun K7 hK7 => ?_
    refine y_region ?_
    refine y_k (.slice none 0 0 : Value) w_4 rfl rfl rfl (by kernel_rfl) ?_
    refine y_k (.slice a0_1.a a0_1.n a0_1.c : Value) w_4 rfl rfl rfl (by kernel_rfl) ?_
    obtain ⟨t15_5, w_6, hx8, h⟩ := h
    refine y_v (s := Builtin.append_ #[22, 22] 22 #[.slice none 0 0, .slice a0_1.a a0_1.n a0_1.c]) rfl rfl rfl (by kernel_rfl) hx8 ?_
    refine y_k (.slice t15_5.a t15_5.n t15_5.c : Value) w_6 rfl rfl rfl (by kernel_rfl) ?_
    refine y_nil ?_
    refine y_then (hK7 _ _ ?_)
    refine y_seq fun K9 hK9 => ?_
    refine y_seq fun K10 hK10 => ?_
    refine y_region ?_
    refine y_k (.int .i64 0 : Value) w_6 rfl rfl rfl (by kernel_rfl) ?_
    refine y_nil ?_
    refine y_then (hK10 _ _ ?_)
    refine y_block ?_
    refine y_loop (S := Sl × Int) (fun s j => match s with | (out6_7, i7_8) => upd (upd (upd (j) 1 (.slice b1_2.a b1_2.n b1_2.c : Value)) 6 (.slice out6_7.a out6_7.n out6_7.c : Value)) 7 (.int .i64 i7_8 : Value)) (t15_5, 0) ?_ h ?_
    · dsimp only
      refine upd_id ?_ rfl
      refine upd_id ?_ rfl
      refine upd_id ?_ rfl
      rfl
    rintro KN13 next12 hN13 ⟨out6_7, i7_8⟩ j w_9 h
    unfold F25_l1 at h
    refine y_seq fun K14 hK14 => ?_
    refine y_seq fun K15 hK15 => ?_
    refine y_region ?_
    refine y_k (.int .i64 i7_8 : Value) w_9 rfl rfl rfl (by kernel_rfl) ?_
    refine y_k (.slice b1_2.a b1_2.n b1_2.c : Value) w_9 rfl rfl rfl (by kernel_rfl) ?_
    refine y_k (.int .i64 ((b1_2.n : Int)) : Value) w_9 rfl rfl rfl (by kernel_rfl) ?_
    refine y_k (.bool (decide (i7_8 < ((b1_2.n : Int)))) : Value) w_9 rfl rfl rfl (by kernel_rfl) ?_
    refine y_nil ?_
    refine y_then (hK15 _ _ ?_)
    refine y_cond (decide (i7_8 < ((b1_2.n : Int)))) rfl rfl (fun hb21 => ?_) (fun hb21 => ?_)
    · replace h := h.1 (of_decide_eq_true hb21)
      refine y_skip ?_
      refine y_then (hK14 _ _ ?_)
      refine y_seq fun K16 hK16 => ?_
      refine y_block ?_
      refine y_region ?_
      refine y_k (.slice out6_7.a out6_7.n out6_7.c : Value) w_9 rfl rfl rfl (by kernel_rfl) ?_
      refine y_k (.slice b1_2.a b1_2.n b1_2.c : Value) w_9 rfl rfl rfl (by kernel_rfl) ?_
      refine y_k (.int .i64 i7_8 : Value) w_9 rfl rfl rfl (by kernel_rfl) ?_
      obtain ⟨hx18a, hx18b, a_10, hx18, h⟩ := h
      refine y_v (v := (.pointer (some (a_10.add (Int.toNat i7_8))) : Value)) (s := Instr.indexAt 22 (.slice b1_2.a b1_2.n b1_2.c : Value) (.int .i64 i7_8 : Value)) rfl rfl rfl (by kernel_rfl) (run_ixs1 (el := 23) (by kernel_rfl) (by kernel_rfl) hx18 hx18a hx18b) ?_
      obtain ⟨t27_11, hx19, h⟩ := h
      refine y_v (s := Instr.loadAt 23 (.pointer (some (a_10.add (Int.toNat i7_8))))) rfl rfl rfl (by kernel_rfl) (rn_load (by kernel_rfl) hx19) ?_
      refine y_call rfl rfl rfl (by kernel_rfl) (h.mono ?_)
      rintro _ w_14 ⟨t28_12, t28_13, rfl, h⟩
      refine ⟨_, rfl, ?_⟩
      refine y_k (.tuple #[.slice t28_12.a t28_12.n t28_12.c, .bool t28_13] : Value) w_14 rfl rfl rfl (by kernel_rfl) ?_
      refine y_k (.slice t28_12.a t28_12.n t28_12.c : Value) w_14 rfl rfl rfl (by kernel_rfl) ?_
      refine y_k (.bool t28_13 : Value) w_14 rfl rfl rfl (by kernel_rfl) ?_
      refine y_k (.slice t28_12.a t28_12.n t28_12.c : Value) w_14 rfl rfl rfl (by kernel_rfl) ?_
      refine y_nil ?_
      refine e_block_n ?_
      refine y_then (hK16 _ _ ?_)
      refine y_region ?_
      refine y_k (.int .i64 i7_8 : Value) w_14 rfl rfl rfl (by kernel_rfl) ?_
      refine y_k (.int .i64 (IntKind.i64.wrap (i7_8 + 1)) : Value) w_14 rfl rfl rfl (by kernel_rfl) ?_
      refine y_k (.int .i64 (IntKind.i64.wrap (i7_8 + 1)) : Value) w_14 rfl rfl rfl (by kernel_rfl) ?_
      refine y_nil ?_
      refine y_then (hN13 (t28_12, IntKind.i64.wrap (i7_8 + 1)) _ _ h ?_)
      dsimp only
      refine upd_id ?_ rfl
      refine upd_id ?_ rfl
      refine upd_id ?_ rfl
      rfl
    · replace h := h.2 (of_decide_eq_false hb21)
      refine y_exit ?_
      repeat (first | refine e_then_x ?_ | refine e_block_y rfl ?_)
      refine e_block_x ?_
      refine y_then (hK9 _ _ ?_)
      refine y_seq fun K20 hK20 => ?_
      refine y_region ?_
      refine y_k (.slice out6_7.a out6_7.n out6_7.c : Value) w_9 rfl rfl rfl (by kernel_rfl) ?_
      refine y_k (.slice out6_7.a out6_7.n out6_7.c : Value) w_9 rfl rfl rfl (by kernel_rfl) ?_
      refine y_nil ?_
      refine y_then (hK20 _ _ ?_)
      refine y_ret ?_
      repeat (first | refine e_then_r ?_ | refine e_block_r ?_)
      exact (hQ0 _ _ _ (res1 (v := (.slice out6_7.a out6_7.n out6_7.c : Value)) rfl rfl rfl) ⟨_, rfl, h⟩).1

def F28_j1 (K : Bool → World → Prop) (t4_7 : Bool) (w_8 : World) : Prop :=
  K t4_7 w_8
/-- turnkey/turnkeyref12.Has -/
def F28 (l0_1 : Sl) (n1_2 : Int) (K : Bool → World → Prop) (w : World) : Prop :=
  Calls Try.prog 35 #[.slice l0_1.a l0_1.n l0_1.c] w fun e w_4 => ∃ (t8_3 : Bool), e = .returned (.bool t8_3 : Value) ∧
  Calls Try.prog 68 #[.slice l0_1.a l0_1.n l0_1.c, .int .u32 n1_2] w_4 fun e w_6 => ∃ (t11_5 : Bool), e = .returned (.bool t11_5 : Value) ∧
  ((t8_3 = true →
  F28_j1 K t11_5 w_6) ∧
  (t8_3 = false →
  F28_j1 K false w_6))
set_option maxHeartbeats 4000000 in
set_option maxRecDepth 20000 in
theorem F28_sound (l0_1 : Sl) (n1_2 : Int) (K : Bool → World → Prop) (w : World) (h : F28 l0_1 n1_2 K w) :
    Calls Try.prog 28 #[.slice l0_1.a l0_1.n l0_1.c, .int .u32 n1_2] w (fun e w1 => ∃ (r0 : Bool), e = .returned (.bool r0 : Value) ∧ K r0 w1) := by
  unfold F28 at h
  refine y_enter (n := 16) (args := [.slice l0_1.a l0_1.n l0_1.c, .int .u32 n1_2]) Try.func28 rfl rfl rfl fun Q0 hQ0 => ?_
  refine y_seq fun K1 hK1 => ?_
  refine y_region ?_
  refine y_k (.bool false : Value) w rfl rfl rfl (by kernel_rfl) ?_
  refine y_nil ?_
  refine y_then (hK1 _ _ ?_)
  refine y_seq fun K2 hK2 => ?_
  refine y_region ?_
  refine y_k (.slice l0_1.a l0_1.n l0_1.c : Value) w rfl rfl rfl (by kernel_rfl) ?_
  refine y_call rfl rfl rfl (by kernel_rfl) (h.mono ?_)
  rintro _ w_4 ⟨t8_3, rfl, h⟩
  refine ⟨_, rfl, ?_⟩
  refine y_k (.bool t8_3 : Value) w_4 rfl rfl rfl (by kernel_rfl) ?_
  refine y_nil ?_
  refine y_then (hK2 _ _ ?_)
  refine y_seq fun K3 hK3 => ?_
  refine y_region ?_
  refine y_k (.slice l0_1.a l0_1.n l0_1.c : Value) w_4 rfl rfl rfl (by kernel_rfl) ?_
  refine y_k (.int .u32 n1_2 : Value) w_4 rfl rfl rfl (by kernel_rfl) ?_
  refine y_call rfl rfl rfl (by kernel_rfl) (h.mono ?_)
  rintro _ w_6 ⟨t11_5, rfl, h⟩
  refine ⟨_, rfl, ?_⟩
  refine y_k (.bool t11_5 : Value) w_6 rfl rfl rfl (by kernel_rfl) ?_
  refine y_nil ?_
  refine y_then (hK3 _ _ ?_)
  refine y_seq fun K4 hK4 => ?_
  have hjK4 : ∀ (f : Fr) (t4_7 : Bool) (w_8 : World), f 4 = (.bool t4_7 : Value) → F28_j1 K t4_7 w_8 → WK K4 16 f w_8 := by
    intro f t4_7 w_8 e4 h
    refine y_atf (upd_id rfl e4) ?_
    clear e4
    unfold F28_j1 at h
    refine hK4 _ _ ?_
    refine y_ret ?_
    repeat (first | refine e_then_r ?_ | refine e_block_r ?_)
    exact (hQ0 _ _ _ (res1 (v := (.bool t4_7 : Value)) rfl rfl rfl) ⟨_, rfl, h⟩).1
  refine y_region ?_
  refine y_k (.bool t8_3 : Value) w_6 rfl rfl rfl (by kernel_rfl) ?_
  refine y_k (.bool t8_3 : Value) w_6 rfl rfl rfl (by kernel_rfl) ?_
  refine y_fork (t8_3) (fun hb5 => ?_) (fun hb5 => ?_)
  · replace h := h.1 (hb5)
    refine y_frame (upd_id (i := 13) (v := .bool true) rfl (congrArg Value.bool hb5)) ?_
    refine y_gyes rfl rfl rfl ?_
    refine y_k (.bool t11_5 : Value) w_6 rfl rfl rfl (by kernel_rfl) ?_
    refine y_k (.bool t11_5 : Value) w_6 rfl rfl rfl (by kernel_rfl) ?_
    refine y_k (.bool t11_5 : Value) w_6 rfl rfl rfl (by kernel_rfl) ?_
    refine y_nil ?_
    exact y_then (hjK4 _ t11_5 w_6 rfl h)
  · replace h := h.2 (hb5)
    refine y_frame (upd_id (i := 13) (v := .bool false) rfl (congrArg Value.bool hb5)) ?_
    refine y_gno rfl rfl rfl rfl ?_
    refine y_k (.bool false : Value) w_6 rfl rfl rfl (by kernel_rfl) ?_
    refine y_k (.bool false : Value) w_6 rfl rfl rfl (by kernel_rfl) ?_
    refine y_nil ?_
    exact y_then (hjK4 _ false w_6 rfl h)

def F21_l1 (l0_1 : Sl) (n1_2 : Int) (K : Sl → Bool → World → Prop) (next9 : (Int) → World → Prop) : (Int) → World → Prop := fun (at7_5) w_6 =>
  ((at7_5 < ((l0_1.n : Int)) →
  (0 : Int) ≤ at7_5 ∧ at7_5 < (l0_1.n : Int) ∧ ∃ (a_7 : Addr), l0_1.a = some a_7 ∧
  ∃ (t21_8 : Int), w_6.cell? (a_7.add (Int.toNat at7_5)) = some (.int .u32 t21_8) ∧
  ((t21_8 < n1_2 →
  next9 (IntKind.i64.wrap (at7_5 + 1)) w_6) ∧
  (¬ (t21_8 < n1_2) →
  ∃ (t30_9 : Sl), (Instr.sliceAt 22 (.slice l0_1.a l0_1.n l0_1.c : Value) none (some (.int .i64 at7_5 : Value)) none).run Try.prog w_6 = .ok (.slice t30_9.a t30_9.n t30_9.c : Value) w_6 ∧
  ∃ (t31_10 : Sl), ∃ (w_11 : World), (Builtin.append_ #[22, 22] 22 #[.slice none 0 0, .slice t30_9.a t30_9.n t30_9.c]).run Try.prog w_6 = .ok (.slice t31_10.a t31_10.n t31_10.c : Value) w_11 ∧
  ((at7_5 < ((l0_1.n : Int)) →
  (0 : Int) ≤ at7_5 ∧ at7_5 < (l0_1.n : Int) ∧ ∃ (a_12 : Addr), l0_1.a = some a_12 ∧
  ∃ (t40_13 : Int), w_11.cell? (a_12.add (Int.toNat at7_5)) = some (.int .u32 t40_13) ∧
  ((t40_13 = n1_2 →
  ∃ (t47_14 : Sl), (Instr.sliceAt 22 (.slice l0_1.a l0_1.n l0_1.c : Value) (some (.int .i64 at7_5 : Value)) none none).run Try.prog w_11 = .ok (.slice t47_14.a t47_14.n t47_14.c : Value) w_11 ∧
  ∃ (t48_15 : Sl), ∃ (w_16 : World), (Builtin.append_ #[22, 22] 22 #[.slice t31_10.a t31_10.n t31_10.c, .slice t47_14.a t47_14.n t47_14.c]).run Try.prog w_11 = .ok (.slice t48_15.a t48_15.n t48_15.c : Value) w_16 ∧
  K t48_15 false w_16) ∧
  (¬ t40_13 = n1_2 →
  ∀ (w_17 : World), w_17 = w_11.alloc (.cells #[.int .u32 n1_2] 23) →
  ∃ (t52_18 : Sl), ∃ (w_19 : World), (Builtin.append_ #[22, 22] 22 #[.slice t31_10.a t31_10.n t31_10.c, .slice (some ⟨w_11.heap.size, 0, none⟩) 1 1]).run Try.prog w_17 = .ok (.slice t52_18.a t52_18.n t52_18.c : Value) w_19 ∧
  ∃ (t56_20 : Sl), (Instr.sliceAt 22 (.slice l0_1.a l0_1.n l0_1.c : Value) (some (.int .i64 at7_5 : Value)) none none).run Try.prog w_19 = .ok (.slice t56_20.a t56_20.n t56_20.c : Value) w_19 ∧
  ∃ (t57_21 : Sl), ∃ (w_22 : World), (Builtin.append_ #[22, 22] 22 #[.slice t52_18.a t52_18.n t52_18.c, .slice t56_20.a t56_20.n t56_20.c]).run Try.prog w_19 = .ok (.slice t57_21.a t57_21.n t57_21.c : Value) w_22 ∧
  K t57_21 true w_22))) ∧
  (¬ (at7_5 < ((l0_1.n : Int))) →
  ∀ (w_23 : World), w_23 = w_11.alloc (.cells #[.int .u32 n1_2] 23) →
  ∃ (t52_24 : Sl), ∃ (w_25 : World), (Builtin.append_ #[22, 22] 22 #[.slice t31_10.a t31_10.n t31_10.c, .slice (some ⟨w_11.heap.size, 0, none⟩) 1 1]).run Try.prog w_23 = .ok (.slice t52_24.a t52_24.n t52_24.c : Value) w_25 ∧
  ∃ (t56_26 : Sl), (Instr.sliceAt 22 (.slice l0_1.a l0_1.n l0_1.c : Value) (some (.int .i64 at7_5 : Value)) none none).run Try.prog w_25 = .ok (.slice t56_26.a t56_26.n t56_26.c : Value) w_25 ∧
  ∃ (t57_27 : Sl), ∃ (w_28 : World), (Builtin.append_ #[22, 22] 22 #[.slice t52_24.a t52_24.n t52_24.c, .slice t56_26.a t56_26.n t56_26.c]).run Try.prog w_25 = .ok (.slice t57_27.a t57_27.n t57_27.c : Value) w_28 ∧
  K t57_27 true w_28))))) ∧
  (¬ (at7_5 < ((l0_1.n : Int))) →
  ∃ (t30_29 : Sl), (Instr.sliceAt 22 (.slice l0_1.a l0_1.n l0_1.c : Value) none (some (.int .i64 at7_5 : Value)) none).run Try.prog w_6 = .ok (.slice t30_29.a t30_29.n t30_29.c : Value) w_6 ∧
  ∃ (t31_30 : Sl), ∃ (w_31 : World), (Builtin.append_ #[22, 22] 22 #[.slice none 0 0, .slice t30_29.a t30_29.n t30_29.c]).run Try.prog w_6 = .ok (.slice t31_30.a t31_30.n t31_30.c : Value) w_31 ∧
  ((at7_5 < ((l0_1.n : Int)) →
  (0 : Int) ≤ at7_5 ∧ at7_5 < (l0_1.n : Int) ∧ ∃ (a_32 : Addr), l0_1.a = some a_32 ∧
  ∃ (t40_33 : Int), w_31.cell? (a_32.add (Int.toNat at7_5)) = some (.int .u32 t40_33) ∧
  ((t40_33 = n1_2 →
  ∃ (t47_34 : Sl), (Instr.sliceAt 22 (.slice l0_1.a l0_1.n l0_1.c : Value) (some (.int .i64 at7_5 : Value)) none none).run Try.prog w_31 = .ok (.slice t47_34.a t47_34.n t47_34.c : Value) w_31 ∧
  ∃ (t48_35 : Sl), ∃ (w_36 : World), (Builtin.append_ #[22, 22] 22 #[.slice t31_30.a t31_30.n t31_30.c, .slice t47_34.a t47_34.n t47_34.c]).run Try.prog w_31 = .ok (.slice t48_35.a t48_35.n t48_35.c : Value) w_36 ∧
  K t48_35 false w_36) ∧
  (¬ t40_33 = n1_2 →
  ∀ (w_37 : World), w_37 = w_31.alloc (.cells #[.int .u32 n1_2] 23) →
  ∃ (t52_38 : Sl), ∃ (w_39 : World), (Builtin.append_ #[22, 22] 22 #[.slice t31_30.a t31_30.n t31_30.c, .slice (some ⟨w_31.heap.size, 0, none⟩) 1 1]).run Try.prog w_37 = .ok (.slice t52_38.a t52_38.n t52_38.c : Value) w_39 ∧
  ∃ (t56_40 : Sl), (Instr.sliceAt 22 (.slice l0_1.a l0_1.n l0_1.c : Value) (some (.int .i64 at7_5 : Value)) none none).run Try.prog w_39 = .ok (.slice t56_40.a t56_40.n t56_40.c : Value) w_39 ∧
  ∃ (t57_41 : Sl), ∃ (w_42 : World), (Builtin.append_ #[22, 22] 22 #[.slice t52_38.a t52_38.n t52_38.c, .slice t56_40.a t56_40.n t56_40.c]).run Try.prog w_39 = .ok (.slice t57_41.a t57_41.n t57_41.c : Value) w_42 ∧
  K t57_41 true w_42))) ∧
  (¬ (at7_5 < ((l0_1.n : Int))) →
  ∀ (w_43 : World), w_43 = w_31.alloc (.cells #[.int .u32 n1_2] 23) →
  ∃ (t52_44 : Sl), ∃ (w_45 : World), (Builtin.append_ #[22, 22] 22 #[.slice t31_30.a t31_30.n t31_30.c, .slice (some ⟨w_31.heap.size, 0, none⟩) 1 1]).run Try.prog w_43 = .ok (.slice t52_44.a t52_44.n t52_44.c : Value) w_45 ∧
  ∃ (t56_46 : Sl), (Instr.sliceAt 22 (.slice l0_1.a l0_1.n l0_1.c : Value) (some (.int .i64 at7_5 : Value)) none none).run Try.prog w_45 = .ok (.slice t56_46.a t56_46.n t56_46.c : Value) w_45 ∧
  ∃ (t57_47 : Sl), ∃ (w_48 : World), (Builtin.append_ #[22, 22] 22 #[.slice t52_44.a t52_44.n t52_44.c, .slice t56_46.a t56_46.n t56_46.c]).run Try.prog w_45 = .ok (.slice t57_47.a t57_47.n t57_47.c : Value) w_48 ∧
  K t57_47 true w_48))))
/-- turnkey/turnkeyref12.Add -/
def F21 (l0_1 : Sl) (n1_2 : Int) (K : Sl → Bool → World → Prop) (w : World) : Prop :=
  Calls Try.prog 35 #[.slice l0_1.a l0_1.n l0_1.c] w fun e w_4 => ∃ (t10_3 : Bool), e = .returned (.bool t10_3 : Value) ∧
  ((t10_3 = false →
  K (⟨none, 0, 0⟩) false w_4) ∧
  (t10_3 = true →
  kLoop (F21_l1 l0_1 n1_2 K) (0) w_4))
set_option maxHeartbeats 4000000 in
set_option maxRecDepth 20000 in
theorem F21_sound (l0_1 : Sl) (n1_2 : Int) (K : Sl → Bool → World → Prop) (w : World) (h : F21 l0_1 n1_2 K w) :
    Calls Try.prog 21 #[.slice l0_1.a l0_1.n l0_1.c, .int .u32 n1_2] w (fun e w1 => ∃ (r0 : Sl), ∃ (r1 : Bool), e = .returned (.tuple #[.slice r0.a r0.n r0.c, .bool r1]) ∧ K r0 r1 w1) := by
  unfold F21 at h
  refine y_enter (n := 58) (args := [.slice l0_1.a l0_1.n l0_1.c, .int .u32 n1_2]) Try.func21 rfl rfl rfl fun Q0 hQ0 => ?_
  refine y_seq fun K1 hK1 => ?_
  refine y_region ?_
  refine y_k (.slice none 0 0 : Value) w rfl rfl rfl (by kernel_rfl) ?_
  refine y_k (.bool false : Value) w rfl rfl rfl (by kernel_rfl) ?_
  refine y_nil ?_
  refine y_then (hK1 _ _ ?_)
  refine y_seq fun K2 hK2 => ?_
  refine y_region ?_
  refine y_k (.slice l0_1.a l0_1.n l0_1.c : Value) w rfl rfl rfl (by kernel_rfl) ?_
  refine y_call rfl rfl rfl (by kernel_rfl) (h.mono ?_)
  rintro _ w_4 ⟨t10_3, rfl, h⟩
  refine ⟨_, rfl, ?_⟩
  refine y_k (.bool t10_3 : Value) w_4 rfl rfl rfl (by kernel_rfl) ?_
  refine y_nil ?_
  refine y_then (hK2 _ _ ?_)
  refine y_seq fun K3 hK3 => ?_
  refine y_seq fun K4 hK4 => ?_
  refine y_region ?_
  refine y_k (.bool t10_3 : Value) w_4 rfl rfl rfl (by kernel_rfl) ?_
  refine y_k (.bool (!(t10_3)) : Value) w_4 rfl rfl rfl (by kernel_rfl) ?_
  refine y_nil ?_
  refine y_then (hK4 _ _ ?_)
  refine y_cond (!(t10_3)) rfl rfl (fun hb64 => ?_) (fun hb64 => ?_)
  · replace h := h.1 ((not_true_of hb64))
    refine y_seq fun K5 hK5 => ?_
    refine y_region ?_
    refine y_k (.slice none 0 0 : Value) w_4 rfl rfl rfl (by kernel_rfl) ?_
    refine y_k (.bool false : Value) w_4 rfl rfl rfl (by kernel_rfl) ?_
    refine y_nil ?_
    refine y_then (hK5 _ _ ?_)
    refine y_ret ?_
    repeat (first | refine e_then_r ?_ | refine e_block_r ?_)
    exact (hQ0 _ _ _ (res2 (v1 := (.slice none 0 0 : Value)) (v2 := (.bool false : Value)) rfl rfl rfl rfl) ⟨_, _, rfl, h⟩).1
  · replace h := h.2 ((not_false_of hb64))
    refine y_skip ?_
    refine y_then (hK3 _ _ ?_)
    refine y_seq fun K6 hK6 => ?_
    refine y_region ?_
    refine y_k (.int .i64 0 : Value) w_4 rfl rfl rfl (by kernel_rfl) ?_
    refine y_nil ?_
    refine y_then (hK6 _ _ ?_)
    refine y_seq fun K7 hK7 => ?_
    refine y_block ?_
    refine y_loop (S := Int) (fun s j => match s with | (at7_5) => upd (upd (upd (j) 0 (.slice l0_1.a l0_1.n l0_1.c : Value)) 1 (.int .u32 n1_2 : Value)) 7 (.int .i64 at7_5 : Value)) (0) ?_ h ?_
    · dsimp only
      refine upd_id ?_ rfl
      refine upd_id ?_ rfl
      refine upd_id ?_ rfl
      rfl
    rintro KN10 next9 hN10 at7_5 j w_6 h
    unfold F21_l1 at h
    refine y_seq fun K11 hK11 => ?_
    refine y_seq fun K12 hK12 => ?_
    refine y_region ?_
    refine y_k (.int .i64 at7_5 : Value) w_6 rfl rfl rfl (by kernel_rfl) ?_
    refine y_k (.slice l0_1.a l0_1.n l0_1.c : Value) w_6 rfl rfl rfl (by kernel_rfl) ?_
    refine y_k (.int .i64 ((l0_1.n : Int)) : Value) w_6 rfl rfl rfl (by kernel_rfl) ?_
    refine y_k (.bool (decide (at7_5 < ((l0_1.n : Int)))) : Value) w_6 rfl rfl rfl (by kernel_rfl) ?_
    refine y_k (.bool (decide (at7_5 < ((l0_1.n : Int)))) : Value) w_6 rfl rfl rfl (by kernel_rfl) ?_
    refine y_fork (decide (at7_5 < ((l0_1.n : Int)))) (fun hb13 => ?_) (fun hb13 => ?_)
    · replace h := h.1 (of_decide_eq_true hb13)
      refine y_frame (upd_id (i := 17) (v := .bool true) rfl (congrArg Value.bool hb13)) ?_
      refine y_gyes rfl rfl rfl ?_
      refine y_k (.slice l0_1.a l0_1.n l0_1.c : Value) w_6 rfl rfl rfl (by kernel_rfl) ?_
      refine y_gyes rfl rfl rfl ?_
      refine y_k (.int .i64 at7_5 : Value) w_6 rfl rfl rfl (by kernel_rfl) ?_
      refine y_gyes rfl rfl rfl ?_
      obtain ⟨hx14a, hx14b, a_7, hx14, h⟩ := h
      refine y_v (v := (.pointer (some (a_7.add (Int.toNat at7_5))) : Value)) (s := Instr.indexAt 22 (.slice l0_1.a l0_1.n l0_1.c : Value) (.int .i64 at7_5 : Value)) rfl rfl rfl (by kernel_rfl) (run_ixs1 (el := 23) (by kernel_rfl) (by kernel_rfl) hx14 hx14a hx14b) ?_
      refine y_gyes rfl rfl rfl ?_
      obtain ⟨t21_8, hx15, h⟩ := h
      refine y_v (s := Instr.loadAt 23 (.pointer (some (a_7.add (Int.toNat at7_5))))) rfl rfl rfl (by kernel_rfl) (rn_load (by kernel_rfl) hx15) ?_
      refine y_gyes rfl rfl rfl ?_
      refine y_k (.int .u32 n1_2 : Value) w_6 rfl rfl rfl (by kernel_rfl) ?_
      refine y_gyes rfl rfl rfl ?_
      refine y_k (.bool (decide (t21_8 < n1_2)) : Value) w_6 rfl rfl rfl (by kernel_rfl) ?_
      refine y_k (.bool (decide (t21_8 < n1_2)) : Value) w_6 rfl rfl rfl (by kernel_rfl) ?_
      refine y_nil ?_
      refine y_then (hK12 _ _ ?_)
      refine y_cond (decide (t21_8 < n1_2)) rfl rfl (fun hb40 => ?_) (fun hb40 => ?_)
      · replace h := h.1 (of_decide_eq_true hb40)
        refine y_skip ?_
        refine y_then (hK11 _ _ ?_)
        refine y_block ?_
        refine y_region ?_
        refine y_k (.int .i64 at7_5 : Value) w_6 rfl rfl rfl (by kernel_rfl) ?_
        refine y_k (.int .i64 (IntKind.i64.wrap (at7_5 + 1)) : Value) w_6 rfl rfl rfl (by kernel_rfl) ?_
        refine y_k (.int .i64 (IntKind.i64.wrap (at7_5 + 1)) : Value) w_6 rfl rfl rfl (by kernel_rfl) ?_
        refine y_nil ?_
        refine e_block_n ?_
        refine y_then (hN10 (IntKind.i64.wrap (at7_5 + 1)) _ _ h ?_)
        dsimp only
        refine upd_id ?_ rfl
        refine upd_id ?_ rfl
        refine upd_id ?_ rfl
        rfl
      · replace h := h.2 (of_decide_eq_false hb40)
        refine y_exit ?_
        repeat (first | refine e_then_x ?_ | refine e_block_y rfl ?_)
        refine e_block_x ?_
        refine y_then (hK7 _ _ ?_)
        refine y_seq fun K17 hK17 => ?_
        refine y_region ?_
        refine y_k (.slice none 0 0 : Value) w_6 rfl rfl rfl (by kernel_rfl) ?_
        refine y_nil ?_
        refine y_then (hK17 _ _ ?_)
        refine y_seq fun K18 hK18 => ?_
        refine y_region ?_
        refine y_k (.slice none 0 0 : Value) w_6 rfl rfl rfl (by kernel_rfl) ?_
        refine y_k (.slice l0_1.a l0_1.n l0_1.c : Value) w_6 rfl rfl rfl (by kernel_rfl) ?_
        refine y_k (.int .i64 at7_5 : Value) w_6 rfl rfl rfl (by kernel_rfl) ?_
        obtain ⟨t30_9, hx19, h⟩ := h
        refine y_v (s := Instr.sliceAt 22 (.slice l0_1.a l0_1.n l0_1.c : Value) none (some (.int .i64 at7_5 : Value)) none) rfl rfl rfl (by kernel_rfl) (hx19) ?_
        obtain ⟨t31_10, w_11, hx20, h⟩ := h
        refine y_v (s := Builtin.append_ #[22, 22] 22 #[.slice none 0 0, .slice t30_9.a t30_9.n t30_9.c]) rfl rfl rfl (by kernel_rfl) hx20 ?_
        refine y_k (.slice t31_10.a t31_10.n t31_10.c : Value) w_11 rfl rfl rfl (by kernel_rfl) ?_
        refine y_nil ?_
        refine y_then (hK18 _ _ ?_)
        refine y_seq fun K21 hK21 => ?_
        refine y_seq fun K22 hK22 => ?_
        refine y_region ?_
        refine y_k (.int .i64 at7_5 : Value) w_11 rfl rfl rfl (by kernel_rfl) ?_
        refine y_k (.slice l0_1.a l0_1.n l0_1.c : Value) w_11 rfl rfl rfl (by kernel_rfl) ?_
        refine y_k (.int .i64 ((l0_1.n : Int)) : Value) w_11 rfl rfl rfl (by kernel_rfl) ?_
        refine y_k (.bool (decide (at7_5 < ((l0_1.n : Int)))) : Value) w_11 rfl rfl rfl (by kernel_rfl) ?_
        refine y_k (.bool (decide (at7_5 < ((l0_1.n : Int)))) : Value) w_11 rfl rfl rfl (by kernel_rfl) ?_
        refine y_fork (decide (at7_5 < ((l0_1.n : Int)))) (fun hb23 => ?_) (fun hb23 => ?_)
        · replace h := h.1 (of_decide_eq_true hb23)
          refine y_frame (upd_id (i := 36) (v := .bool true) rfl (congrArg Value.bool hb23)) ?_
          refine y_gyes rfl rfl rfl ?_
          refine y_k (.slice l0_1.a l0_1.n l0_1.c : Value) w_11 rfl rfl rfl (by kernel_rfl) ?_
          refine y_gyes rfl rfl rfl ?_
          refine y_k (.int .i64 at7_5 : Value) w_11 rfl rfl rfl (by kernel_rfl) ?_
          refine y_gyes rfl rfl rfl ?_
          obtain ⟨hx24a, hx24b, a_12, hx24, h⟩ := h
          refine y_v (v := (.pointer (some (a_12.add (Int.toNat at7_5))) : Value)) (s := Instr.indexAt 22 (.slice l0_1.a l0_1.n l0_1.c : Value) (.int .i64 at7_5 : Value)) rfl rfl rfl (by kernel_rfl) (run_ixs1 (el := 23) (by kernel_rfl) (by kernel_rfl) hx24 hx24a hx24b) ?_
          refine y_gyes rfl rfl rfl ?_
          obtain ⟨t40_13, hx25, h⟩ := h
          refine y_v (s := Instr.loadAt 23 (.pointer (some (a_12.add (Int.toNat at7_5))))) rfl rfl rfl (by kernel_rfl) (rn_load (by kernel_rfl) hx25) ?_
          refine y_gyes rfl rfl rfl ?_
          refine y_k (.int .u32 n1_2 : Value) w_11 rfl rfl rfl (by kernel_rfl) ?_
          refine y_gyes rfl rfl rfl ?_
          refine y_k (.bool ((t40_13 == n1_2)) : Value) w_11 rfl rfl rfl (by kernel_rfl) ?_
          refine y_k (.bool ((t40_13 == n1_2)) : Value) w_11 rfl rfl rfl (by kernel_rfl) ?_
          refine y_nil ?_
          refine y_then (hK22 _ _ ?_)
          refine y_cond ((t40_13 == n1_2)) rfl rfl (fun hb34 => ?_) (fun hb34 => ?_)
          · replace h := h.1 (eq_of_beq hb34)
            refine y_seq fun K26 hK26 => ?_
            refine y_region ?_
            refine y_k (.slice t31_10.a t31_10.n t31_10.c : Value) w_11 rfl rfl rfl (by kernel_rfl) ?_
            refine y_k (.slice l0_1.a l0_1.n l0_1.c : Value) w_11 rfl rfl rfl (by kernel_rfl) ?_
            refine y_k (.int .i64 at7_5 : Value) w_11 rfl rfl rfl (by kernel_rfl) ?_
            obtain ⟨t47_14, hx27, h⟩ := h
            refine y_v (s := Instr.sliceAt 22 (.slice l0_1.a l0_1.n l0_1.c : Value) (some (.int .i64 at7_5 : Value)) none none) rfl rfl rfl (by kernel_rfl) (hx27) ?_
            obtain ⟨t48_15, w_16, hx28, h⟩ := h
            refine y_v (s := Builtin.append_ #[22, 22] 22 #[.slice t31_10.a t31_10.n t31_10.c, .slice t47_14.a t47_14.n t47_14.c]) rfl rfl rfl (by kernel_rfl) hx28 ?_
            refine y_k (.slice t48_15.a t48_15.n t48_15.c : Value) w_16 rfl rfl rfl (by kernel_rfl) ?_
            refine y_k (.bool false : Value) w_16 rfl rfl rfl (by kernel_rfl) ?_
            refine y_nil ?_
            refine y_then (hK26 _ _ ?_)
            refine y_ret ?_
            repeat (first | refine e_then_r ?_ | refine e_block_r ?_)
            exact (hQ0 _ _ _ (res2 (v1 := (.slice t48_15.a t48_15.n t48_15.c : Value)) (v2 := (.bool false : Value)) rfl rfl rfl rfl) ⟨_, _, rfl, h⟩).1
          · replace h := h.2 (beq_eq_false_iff_ne.mp hb34)
            refine y_skip ?_
            refine y_then (hK21 _ _ ?_)
            refine y_seq fun K29 hK29 => ?_
            refine y_region ?_
            refine y_k (.slice t31_10.a t31_10.n t31_10.c : Value) w_11 rfl rfl rfl (by kernel_rfl) ?_
            refine y_k (.int .u32 n1_2 : Value) w_11 rfl rfl rfl (by kernel_rfl) ?_
            refine y_k (.slice (some ⟨w_11.heap.size, 0, none⟩) 1 1 : Value) (w_11.alloc (.cells #[.int .u32 n1_2] 23)) rfl rfl rfl (by kernel_rfl) ?_
            replace h := h _ rfl
            generalize w_11.alloc (.cells #[.int .u32 n1_2] 23) = w_17 at h ⊢
            obtain ⟨t52_18, w_19, hx30, h⟩ := h
            refine y_v (s := Builtin.append_ #[22, 22] 22 #[.slice t31_10.a t31_10.n t31_10.c, .slice (some ⟨w_11.heap.size, 0, none⟩) 1 1]) rfl rfl rfl (by kernel_rfl) hx30 ?_
            refine y_k (.slice t52_18.a t52_18.n t52_18.c : Value) w_19 rfl rfl rfl (by kernel_rfl) ?_
            refine y_nil ?_
            refine y_then (hK29 _ _ ?_)
            refine y_seq fun K31 hK31 => ?_
            refine y_region ?_
            refine y_k (.slice t52_18.a t52_18.n t52_18.c : Value) w_19 rfl rfl rfl (by kernel_rfl) ?_
            refine y_k (.slice l0_1.a l0_1.n l0_1.c : Value) w_19 rfl rfl rfl (by kernel_rfl) ?_
            refine y_k (.int .i64 at7_5 : Value) w_19 rfl rfl rfl (by kernel_rfl) ?_
            obtain ⟨t56_20, hx32, h⟩ := h
            refine y_v (s := Instr.sliceAt 22 (.slice l0_1.a l0_1.n l0_1.c : Value) (some (.int .i64 at7_5 : Value)) none none) rfl rfl rfl (by kernel_rfl) (hx32) ?_
            obtain ⟨t57_21, w_22, hx33, h⟩ := h
            refine y_v (s := Builtin.append_ #[22, 22] 22 #[.slice t52_18.a t52_18.n t52_18.c, .slice t56_20.a t56_20.n t56_20.c]) rfl rfl rfl (by kernel_rfl) hx33 ?_
            refine y_k (.slice t57_21.a t57_21.n t57_21.c : Value) w_22 rfl rfl rfl (by kernel_rfl) ?_
            refine y_k (.bool true : Value) w_22 rfl rfl rfl (by kernel_rfl) ?_
            refine y_nil ?_
            refine y_then (hK31 _ _ ?_)
            refine y_ret ?_
            repeat (first | refine e_then_r ?_ | refine e_block_r ?_)
            exact (hQ0 _ _ _ (res2 (v1 := (.slice t57_21.a t57_21.n t57_21.c : Value)) (v2 := (.bool true : Value)) rfl rfl rfl rfl) ⟨_, _, rfl, h⟩).1
        · replace h := h.2 (of_decide_eq_false hb23)
          refine y_frame (upd_id (i := 36) (v := .bool false) rfl (congrArg Value.bool hb23)) ?_
          refine y_gno rfl rfl rfl rfl ?_
          refine y_gno rfl rfl rfl rfl ?_
          refine y_gno rfl rfl rfl rfl ?_
          refine y_gno rfl rfl rfl rfl ?_
          refine y_gno rfl rfl rfl rfl ?_
          refine y_gno rfl rfl rfl rfl ?_
          refine y_k (.bool false : Value) w_11 rfl rfl rfl (by kernel_rfl) ?_
          refine y_nil ?_
          refine y_then (hK22 _ _ ?_)
          refine y_cond_f rfl rfl ?_
          refine y_skip ?_
          refine y_then (hK21 _ _ ?_)
          refine y_seq fun K35 hK35 => ?_
          refine y_region ?_
          refine y_k (.slice t31_10.a t31_10.n t31_10.c : Value) w_11 rfl rfl rfl (by kernel_rfl) ?_
          refine y_k (.int .u32 n1_2 : Value) w_11 rfl rfl rfl (by kernel_rfl) ?_
          refine y_k (.slice (some ⟨w_11.heap.size, 0, none⟩) 1 1 : Value) (w_11.alloc (.cells #[.int .u32 n1_2] 23)) rfl rfl rfl (by kernel_rfl) ?_
          replace h := h _ rfl
          generalize w_11.alloc (.cells #[.int .u32 n1_2] 23) = w_23 at h ⊢
          obtain ⟨t52_24, w_25, hx36, h⟩ := h
          refine y_v (s := Builtin.append_ #[22, 22] 22 #[.slice t31_10.a t31_10.n t31_10.c, .slice (some ⟨w_11.heap.size, 0, none⟩) 1 1]) rfl rfl rfl (by kernel_rfl) hx36 ?_
          refine y_k (.slice t52_24.a t52_24.n t52_24.c : Value) w_25 rfl rfl rfl (by kernel_rfl) ?_
          refine y_nil ?_
          refine y_then (hK35 _ _ ?_)
          refine y_seq fun K37 hK37 => ?_
          refine y_region ?_
          refine y_k (.slice t52_24.a t52_24.n t52_24.c : Value) w_25 rfl rfl rfl (by kernel_rfl) ?_
          refine y_k (.slice l0_1.a l0_1.n l0_1.c : Value) w_25 rfl rfl rfl (by kernel_rfl) ?_
          refine y_k (.int .i64 at7_5 : Value) w_25 rfl rfl rfl (by kernel_rfl) ?_
          obtain ⟨t56_26, hx38, h⟩ := h
          refine y_v (s := Instr.sliceAt 22 (.slice l0_1.a l0_1.n l0_1.c : Value) (some (.int .i64 at7_5 : Value)) none none) rfl rfl rfl (by kernel_rfl) (hx38) ?_
          obtain ⟨t57_27, w_28, hx39, h⟩ := h
          refine y_v (s := Builtin.append_ #[22, 22] 22 #[.slice t52_24.a t52_24.n t52_24.c, .slice t56_26.a t56_26.n t56_26.c]) rfl rfl rfl (by kernel_rfl) hx39 ?_
          refine y_k (.slice t57_27.a t57_27.n t57_27.c : Value) w_28 rfl rfl rfl (by kernel_rfl) ?_
          refine y_k (.bool true : Value) w_28 rfl rfl rfl (by kernel_rfl) ?_
          refine y_nil ?_
          refine y_then (hK37 _ _ ?_)
          refine y_ret ?_
          repeat (first | refine e_then_r ?_ | refine e_block_r ?_)
          exact (hQ0 _ _ _ (res2 (v1 := (.slice t57_27.a t57_27.n t57_27.c : Value)) (v2 := (.bool true : Value)) rfl rfl rfl rfl) ⟨_, _, rfl, h⟩).1
    · replace h := h.2 (of_decide_eq_false hb13)
      refine y_frame (upd_id (i := 17) (v := .bool false) rfl (congrArg Value.bool hb13)) ?_
      refine y_gno rfl rfl rfl rfl ?_
      refine y_gno rfl rfl rfl rfl ?_
      refine y_gno rfl rfl rfl rfl ?_
      refine y_gno rfl rfl rfl rfl ?_
      refine y_gno rfl rfl rfl rfl ?_
      refine y_gno rfl rfl rfl rfl ?_
      refine y_k (.bool false : Value) w_6 rfl rfl rfl (by kernel_rfl) ?_
      refine y_nil ?_
      refine y_then (hK12 _ _ ?_)
      refine y_cond_f rfl rfl ?_
      refine y_exit ?_
      repeat (first | refine e_then_x ?_ | refine e_block_y rfl ?_)
      refine e_block_x ?_
      refine y_then (hK7 _ _ ?_)
      refine y_seq fun K41 hK41 => ?_
      refine y_region ?_
      refine y_k (.slice none 0 0 : Value) w_6 rfl rfl rfl (by kernel_rfl) ?_
      refine y_nil ?_
      refine y_then (hK41 _ _ ?_)
      refine y_seq fun K42 hK42 => ?_
      refine y_region ?_
      refine y_k (.slice none 0 0 : Value) w_6 rfl rfl rfl (by kernel_rfl) ?_
      refine y_k (.slice l0_1.a l0_1.n l0_1.c : Value) w_6 rfl rfl rfl (by kernel_rfl) ?_
      refine y_k (.int .i64 at7_5 : Value) w_6 rfl rfl rfl (by kernel_rfl) ?_
      obtain ⟨t30_29, hx43, h⟩ := h
      refine y_v (s := Instr.sliceAt 22 (.slice l0_1.a l0_1.n l0_1.c : Value) none (some (.int .i64 at7_5 : Value)) none) rfl rfl rfl (by kernel_rfl) (hx43) ?_
      obtain ⟨t31_30, w_31, hx44, h⟩ := h
      refine y_v (s := Builtin.append_ #[22, 22] 22 #[.slice none 0 0, .slice t30_29.a t30_29.n t30_29.c]) rfl rfl rfl (by kernel_rfl) hx44 ?_
      refine y_k (.slice t31_30.a t31_30.n t31_30.c : Value) w_31 rfl rfl rfl (by kernel_rfl) ?_
      refine y_nil ?_
      refine y_then (hK42 _ _ ?_)
      refine y_seq fun K45 hK45 => ?_
      refine y_seq fun K46 hK46 => ?_
      refine y_region ?_
      refine y_k (.int .i64 at7_5 : Value) w_31 rfl rfl rfl (by kernel_rfl) ?_
      refine y_k (.slice l0_1.a l0_1.n l0_1.c : Value) w_31 rfl rfl rfl (by kernel_rfl) ?_
      refine y_k (.int .i64 ((l0_1.n : Int)) : Value) w_31 rfl rfl rfl (by kernel_rfl) ?_
      refine y_k (.bool (decide (at7_5 < ((l0_1.n : Int)))) : Value) w_31 rfl rfl rfl (by kernel_rfl) ?_
      refine y_k (.bool (decide (at7_5 < ((l0_1.n : Int)))) : Value) w_31 rfl rfl rfl (by kernel_rfl) ?_
      refine y_fork (decide (at7_5 < ((l0_1.n : Int)))) (fun hb47 => ?_) (fun hb47 => ?_)
      · replace h := h.1 (of_decide_eq_true hb47)
        refine y_frame (upd_id (i := 36) (v := .bool true) rfl (congrArg Value.bool hb47)) ?_
        refine y_gyes rfl rfl rfl ?_
        refine y_k (.slice l0_1.a l0_1.n l0_1.c : Value) w_31 rfl rfl rfl (by kernel_rfl) ?_
        refine y_gyes rfl rfl rfl ?_
        refine y_k (.int .i64 at7_5 : Value) w_31 rfl rfl rfl (by kernel_rfl) ?_
        refine y_gyes rfl rfl rfl ?_
        obtain ⟨hx48a, hx48b, a_32, hx48, h⟩ := h
        refine y_v (v := (.pointer (some (a_32.add (Int.toNat at7_5))) : Value)) (s := Instr.indexAt 22 (.slice l0_1.a l0_1.n l0_1.c : Value) (.int .i64 at7_5 : Value)) rfl rfl rfl (by kernel_rfl) (run_ixs1 (el := 23) (by kernel_rfl) (by kernel_rfl) hx48 hx48a hx48b) ?_
        refine y_gyes rfl rfl rfl ?_
        obtain ⟨t40_33, hx49, h⟩ := h
        refine y_v (s := Instr.loadAt 23 (.pointer (some (a_32.add (Int.toNat at7_5))))) rfl rfl rfl (by kernel_rfl) (rn_load (by kernel_rfl) hx49) ?_
        refine y_gyes rfl rfl rfl ?_
        refine y_k (.int .u32 n1_2 : Value) w_31 rfl rfl rfl (by kernel_rfl) ?_
        refine y_gyes rfl rfl rfl ?_
        refine y_k (.bool ((t40_33 == n1_2)) : Value) w_31 rfl rfl rfl (by kernel_rfl) ?_
        refine y_k (.bool ((t40_33 == n1_2)) : Value) w_31 rfl rfl rfl (by kernel_rfl) ?_
        refine y_nil ?_
        refine y_then (hK46 _ _ ?_)
        refine y_cond ((t40_33 == n1_2)) rfl rfl (fun hb58 => ?_) (fun hb58 => ?_)
        · replace h := h.1 (eq_of_beq hb58)
          refine y_seq fun K50 hK50 => ?_
          refine y_region ?_
          refine y_k (.slice t31_30.a t31_30.n t31_30.c : Value) w_31 rfl rfl rfl (by kernel_rfl) ?_
          refine y_k (.slice l0_1.a l0_1.n l0_1.c : Value) w_31 rfl rfl rfl (by kernel_rfl) ?_
          refine y_k (.int .i64 at7_5 : Value) w_31 rfl rfl rfl (by kernel_rfl) ?_
          obtain ⟨t47_34, hx51, h⟩ := h
          refine y_v (s := Instr.sliceAt 22 (.slice l0_1.a l0_1.n l0_1.c : Value) (some (.int .i64 at7_5 : Value)) none none) rfl rfl rfl (by kernel_rfl) (hx51) ?_
          obtain ⟨t48_35, w_36, hx52, h⟩ := h
          refine y_v (s := Builtin.append_ #[22, 22] 22 #[.slice t31_30.a t31_30.n t31_30.c, .slice t47_34.a t47_34.n t47_34.c]) rfl rfl rfl (by kernel_rfl) hx52 ?_
          refine y_k (.slice t48_35.a t48_35.n t48_35.c : Value) w_36 rfl rfl rfl (by kernel_rfl) ?_
          refine y_k (.bool false : Value) w_36 rfl rfl rfl (by kernel_rfl) ?_
          refine y_nil ?_
          refine y_then (hK50 _ _ ?_)
          refine y_ret ?_
          repeat (first | refine e_then_r ?_ | refine e_block_r ?_)
          exact (hQ0 _ _ _ (res2 (v1 := (.slice t48_35.a t48_35.n t48_35.c : Value)) (v2 := (.bool false : Value)) rfl rfl rfl rfl) ⟨_, _, rfl, h⟩).1
        · replace h := h.2 (beq_eq_false_iff_ne.mp hb58)
          refine y_skip ?_
          refine y_then (hK45 _ _ ?_)
          refine y_seq fun K53 hK53 => ?_
          refine y_region ?_
          refine y_k (.slice t31_30.a t31_30.n t31_30.c : Value) w_31 rfl rfl rfl (by kernel_rfl) ?_
          refine y_k (.int .u32 n1_2 : Value) w_31 rfl rfl rfl (by kernel_rfl) ?_
          refine y_k (.slice (some ⟨w_31.heap.size, 0, none⟩) 1 1 : Value) (w_31.alloc (.cells #[.int .u32 n1_2] 23)) rfl rfl rfl (by kernel_rfl) ?_
          replace h := h _ rfl
          generalize w_31.alloc (.cells #[.int .u32 n1_2] 23) = w_37 at h ⊢
          obtain ⟨t52_38, w_39, hx54, h⟩ := h
          refine y_v (s := Builtin.append_ #[22, 22] 22 #[.slice t31_30.a t31_30.n t31_30.c, .slice (some ⟨w_31.heap.size, 0, none⟩) 1 1]) rfl rfl rfl (by kernel_rfl) hx54 ?_
          refine y_k (.slice t52_38.a t52_38.n t52_38.c : Value) w_39 rfl rfl rfl (by kernel_rfl) ?_
          refine y_nil ?_
          refine y_then (hK53 _ _ ?_)
          refine y_seq fun K55 hK55 => ?_
          refine y_region ?_
          refine y_k (.slice t52_38.a t52_38.n t52_38.c : Value) w_39 rfl rfl rfl (by kernel_rfl) ?_
          refine y_k (.slice l0_1.a l0_1.n l0_1.c : Value) w_39 rfl rfl rfl (by kernel_rfl) ?_
          refine y_k (.int .i64 at7_5 : Value) w_39 rfl rfl rfl (by kernel_rfl) ?_
          obtain ⟨t56_40, hx56, h⟩ := h
          refine y_v (s := Instr.sliceAt 22 (.slice l0_1.a l0_1.n l0_1.c : Value) (some (.int .i64 at7_5 : Value)) none none) rfl rfl rfl (by kernel_rfl) (hx56) ?_
          obtain ⟨t57_41, w_42, hx57, h⟩ := h
          refine y_v (s := Builtin.append_ #[22, 22] 22 #[.slice t52_38.a t52_38.n t52_38.c, .slice t56_40.a t56_40.n t56_40.c]) rfl rfl rfl (by kernel_rfl) hx57 ?_
          refine y_k (.slice t57_41.a t57_41.n t57_41.c : Value) w_42 rfl rfl rfl (by kernel_rfl) ?_
          refine y_k (.bool true : Value) w_42 rfl rfl rfl (by kernel_rfl) ?_
          refine y_nil ?_
          refine y_then (hK55 _ _ ?_)
          refine y_ret ?_
          repeat (first | refine e_then_r ?_ | refine e_block_r ?_)
          exact (hQ0 _ _ _ (res2 (v1 := (.slice t57_41.a t57_41.n t57_41.c : Value)) (v2 := (.bool true : Value)) rfl rfl rfl rfl) ⟨_, _, rfl, h⟩).1
      · replace h := h.2 (of_decide_eq_false hb47)
        refine y_frame (upd_id (i := 36) (v := .bool false) rfl (congrArg Value.bool hb47)) ?_
        refine y_gno rfl rfl rfl rfl ?_
        refine y_gno rfl rfl rfl rfl ?_
        refine y_gno rfl rfl rfl rfl ?_
        refine y_gno rfl rfl rfl rfl ?_
        refine y_gno rfl rfl rfl rfl ?_
        refine y_gno rfl rfl rfl rfl ?_
        refine y_k (.bool false : Value) w_31 rfl rfl rfl (by kernel_rfl) ?_
        refine y_nil ?_
        refine y_then (hK46 _ _ ?_)
        refine y_cond_f rfl rfl ?_
        refine y_skip ?_
        refine y_then (hK45 _ _ ?_)
        refine y_seq fun K59 hK59 => ?_
        refine y_region ?_
        refine y_k (.slice t31_30.a t31_30.n t31_30.c : Value) w_31 rfl rfl rfl (by kernel_rfl) ?_
        refine y_k (.int .u32 n1_2 : Value) w_31 rfl rfl rfl (by kernel_rfl) ?_
        refine y_k (.slice (some ⟨w_31.heap.size, 0, none⟩) 1 1 : Value) (w_31.alloc (.cells #[.int .u32 n1_2] 23)) rfl rfl rfl (by kernel_rfl) ?_
        replace h := h _ rfl
        generalize w_31.alloc (.cells #[.int .u32 n1_2] 23) = w_43 at h ⊢
        obtain ⟨t52_44, w_45, hx60, h⟩ := h
        refine y_v (s := Builtin.append_ #[22, 22] 22 #[.slice t31_30.a t31_30.n t31_30.c, .slice (some ⟨w_31.heap.size, 0, none⟩) 1 1]) rfl rfl rfl (by kernel_rfl) hx60 ?_
        refine y_k (.slice t52_44.a t52_44.n t52_44.c : Value) w_45 rfl rfl rfl (by kernel_rfl) ?_
        refine y_nil ?_
        refine y_then (hK59 _ _ ?_)
        refine y_seq fun K61 hK61 => ?_
        refine y_region ?_
        refine y_k (.slice t52_44.a t52_44.n t52_44.c : Value) w_45 rfl rfl rfl (by kernel_rfl) ?_
        refine y_k (.slice l0_1.a l0_1.n l0_1.c : Value) w_45 rfl rfl rfl (by kernel_rfl) ?_
        refine y_k (.int .i64 at7_5 : Value) w_45 rfl rfl rfl (by kernel_rfl) ?_
        obtain ⟨t56_46, hx62, h⟩ := h
        refine y_v (s := Instr.sliceAt 22 (.slice l0_1.a l0_1.n l0_1.c : Value) (some (.int .i64 at7_5 : Value)) none none) rfl rfl rfl (by kernel_rfl) (hx62) ?_
        obtain ⟨t57_47, w_48, hx63, h⟩ := h
        refine y_v (s := Builtin.append_ #[22, 22] 22 #[.slice t52_44.a t52_44.n t52_44.c, .slice t56_46.a t56_46.n t56_46.c]) rfl rfl rfl (by kernel_rfl) hx63 ?_
        refine y_k (.slice t57_47.a t57_47.n t57_47.c : Value) w_48 rfl rfl rfl (by kernel_rfl) ?_
        refine y_k (.bool true : Value) w_48 rfl rfl rfl (by kernel_rfl) ?_
        refine y_nil ?_
        refine y_then (hK61 _ _ ?_)
        refine y_ret ?_
        repeat (first | refine e_then_r ?_ | refine e_block_r ?_)
        exact (hQ0 _ _ _ (res2 (v1 := (.slice t57_47.a t57_47.n t57_47.c : Value)) (v2 := (.bool true : Value)) rfl rfl rfl rfl) ⟨_, _, rfl, h⟩).1

def F22_j2 (i8_6 : Int) (next10 : (Sl × Int) → World → Prop) (out7_15 : Sl) (w_16 : World) : Prop :=
  next10 (out7_15, IntKind.i64.wrap (i8_6 + 1)) w_16
def F22_l1 (l0_1 : Sl) (n1_2 : Int) (K : Sl → Bool → World → Prop) (next10 : (Sl × Int) → World → Prop) : (Sl × Int) → World → Prop := fun (out7_5, i8_6) w_7 =>
  ((i8_6 < ((l0_1.n : Int)) →
  (0 : Int) ≤ i8_6 ∧ i8_6 < (l0_1.n : Int) ∧ ∃ (a_8 : Addr), l0_1.a = some a_8 ∧
  ∃ (t22_9 : Int), w_7.cell? (a_8.add (Int.toNat i8_6)) = some (.int .u32 t22_9) ∧
  ((¬ t22_9 = n1_2 →
  (0 : Int) ≤ i8_6 ∧ i8_6 < (l0_1.n : Int) ∧ ∃ (a_10 : Addr), l0_1.a = some a_10 ∧
  ∃ (t29_11 : Int), w_7.cell? (a_10.add (Int.toNat i8_6)) = some (.int .u32 t29_11) ∧
  ∀ (w_12 : World), w_12 = w_7.alloc (.cells #[.int .u32 t29_11] 23) →
  ∃ (t31_13 : Sl), ∃ (w_14 : World), (Builtin.append_ #[22, 22] 22 #[.slice out7_5.a out7_5.n out7_5.c, .slice (some ⟨w_7.heap.size, 0, none⟩) 1 1]).run Try.prog w_12 = .ok (.slice t31_13.a t31_13.n t31_13.c : Value) w_14 ∧
  F22_j2 i8_6 next10 t31_13 w_14) ∧
  (t22_9 = n1_2 →
  F22_j2 i8_6 next10 out7_5 w_7))) ∧
  (¬ (i8_6 < ((l0_1.n : Int))) →
  K out7_5 (decide (((out7_5.n : Int)) < ((l0_1.n : Int)))) w_7))
/-- turnkey/turnkeyref12.Take -/
def F22 (l0_1 : Sl) (n1_2 : Int) (K : Sl → Bool → World → Prop) (w : World) : Prop :=
  Calls Try.prog 35 #[.slice l0_1.a l0_1.n l0_1.c] w fun e w_4 => ∃ (t10_3 : Bool), e = .returned (.bool t10_3 : Value) ∧
  ((t10_3 = false →
  K (⟨none, 0, 0⟩) false w_4) ∧
  (t10_3 = true →
  kLoop (F22_l1 l0_1 n1_2 K) (⟨none, 0, 0⟩, 0) w_4))
set_option maxHeartbeats 4000000 in
set_option maxRecDepth 20000 in
theorem F22_sound (l0_1 : Sl) (n1_2 : Int) (K : Sl → Bool → World → Prop) (w : World) (h : F22 l0_1 n1_2 K w) :
    Calls Try.prog 22 #[.slice l0_1.a l0_1.n l0_1.c, .int .u32 n1_2] w (fun e w1 => ∃ (r0 : Sl), ∃ (r1 : Bool), e = .returned (.tuple #[.slice r0.a r0.n r0.c, .bool r1]) ∧ K r0 r1 w1) := by
  unfold F22 at h
  refine y_enter (n := 38) (args := [.slice l0_1.a l0_1.n l0_1.c, .int .u32 n1_2]) Try.func22 rfl rfl rfl fun Q0 hQ0 => ?_
  refine y_seq fun K1 hK1 => ?_
  refine y_region ?_
  refine y_k (.slice none 0 0 : Value) w rfl rfl rfl (by kernel_rfl) ?_
  refine y_k (.bool false : Value) w rfl rfl rfl (by kernel_rfl) ?_
  refine y_nil ?_
  refine y_then (hK1 _ _ ?_)
  refine y_seq fun K2 hK2 => ?_
  refine y_region ?_
  refine y_k (.slice l0_1.a l0_1.n l0_1.c : Value) w rfl rfl rfl (by kernel_rfl) ?_
  refine y_call rfl rfl rfl (by kernel_rfl) (h.mono ?_)
  rintro _ w_4 ⟨t10_3, rfl, h⟩
  refine ⟨_, rfl, ?_⟩
  refine y_k (.bool t10_3 : Value) w_4 rfl rfl rfl (by kernel_rfl) ?_
  refine y_nil ?_
  refine y_then (hK2 _ _ ?_)
  refine y_seq fun K3 hK3 => ?_
  refine y_seq fun K4 hK4 => ?_
  refine y_region ?_
  refine y_k (.bool t10_3 : Value) w_4 rfl rfl rfl (by kernel_rfl) ?_
  refine y_k (.bool (!(t10_3)) : Value) w_4 rfl rfl rfl (by kernel_rfl) ?_
  refine y_nil ?_
  refine y_then (hK4 _ _ ?_)
  refine y_cond (!(t10_3)) rfl rfl (fun hb25 => ?_) (fun hb25 => ?_)
  · replace h := h.1 ((not_true_of hb25))
    refine y_seq fun K5 hK5 => ?_
    refine y_region ?_
    refine y_k (.slice none 0 0 : Value) w_4 rfl rfl rfl (by kernel_rfl) ?_
    refine y_k (.bool false : Value) w_4 rfl rfl rfl (by kernel_rfl) ?_
    refine y_nil ?_
    refine y_then (hK5 _ _ ?_)
    refine y_ret ?_
    repeat (first | refine e_then_r ?_ | refine e_block_r ?_)
    exact (hQ0 _ _ _ (res2 (v1 := (.slice none 0 0 : Value)) (v2 := (.bool false : Value)) rfl rfl rfl rfl) ⟨_, _, rfl, h⟩).1
  · replace h := h.2 ((not_false_of hb25))
    refine y_skip ?_
    refine y_then (hK3 _ _ ?_)
    refine y_seq fun K6 hK6 => ?_
    refine y_region ?_
    refine y_k (.slice none 0 0 : Value) w_4 rfl rfl rfl (by kernel_rfl) ?_
    refine y_nil ?_
    refine y_then (hK6 _ _ ?_)
    refine y_seq fun K7 hK7 => ?_
    refine y_seq fun K8 hK8 => ?_
    refine y_region ?_
    refine y_k (.int .i64 0 : Value) w_4 rfl rfl rfl (by kernel_rfl) ?_
    refine y_nil ?_
    refine y_then (hK8 _ _ ?_)
    refine y_block ?_
    refine y_loop (S := Sl × Int) (fun s j => match s with | (out7_5, i8_6) => upd (upd (upd (upd (j) 0 (.slice l0_1.a l0_1.n l0_1.c : Value)) 1 (.int .u32 n1_2 : Value)) 7 (.slice out7_5.a out7_5.n out7_5.c : Value)) 8 (.int .i64 i8_6 : Value)) (⟨none, 0, 0⟩, 0) ?_ h ?_
    · dsimp only
      refine upd_id ?_ rfl
      refine upd_id ?_ rfl
      refine upd_id ?_ rfl
      refine upd_id ?_ rfl
      rfl
    rintro KN11 next10 hN11 ⟨out7_5, i8_6⟩ j w_7 h
    unfold F22_l1 at h
    refine y_seq fun K12 hK12 => ?_
    refine y_seq fun K13 hK13 => ?_
    refine y_region ?_
    refine y_k (.int .i64 i8_6 : Value) w_7 rfl rfl rfl (by kernel_rfl) ?_
    refine y_k (.slice l0_1.a l0_1.n l0_1.c : Value) w_7 rfl rfl rfl (by kernel_rfl) ?_
    refine y_k (.int .i64 ((l0_1.n : Int)) : Value) w_7 rfl rfl rfl (by kernel_rfl) ?_
    refine y_k (.bool (decide (i8_6 < ((l0_1.n : Int)))) : Value) w_7 rfl rfl rfl (by kernel_rfl) ?_
    refine y_nil ?_
    refine y_then (hK13 _ _ ?_)
    refine y_cond (decide (i8_6 < ((l0_1.n : Int)))) rfl rfl (fun hb24 => ?_) (fun hb24 => ?_)
    · replace h := h.1 (of_decide_eq_true hb24)
      refine y_skip ?_
      refine y_then (hK12 _ _ ?_)
      refine y_seq fun K14 hK14 => ?_
      have hjK14 : ∀ (f : Fr) (out7_15 : Sl) (w_16 : World), f 0 = (.slice l0_1.a l0_1.n l0_1.c : Value) → f 1 = (.int .u32 n1_2 : Value) → f 7 = (.slice out7_15.a out7_15.n out7_15.c : Value) → f 8 = (.int .i64 i8_6 : Value) → F22_j2 i8_6 next10 out7_15 w_16 → WK K14 38 f w_16 := by
        intro f out7_15 w_16 e0 e1 e7 e8 h
        refine y_atf (upd_id (upd_id (upd_id (upd_id rfl e0) e1) e7) e8) ?_
        clear e0 e1 e7 e8
        unfold F22_j2 at h
        refine hK14 _ _ ?_
        refine y_region ?_
        refine y_k (.int .i64 i8_6 : Value) w_16 rfl rfl rfl (by kernel_rfl) ?_
        refine y_k (.int .i64 (IntKind.i64.wrap (i8_6 + 1)) : Value) w_16 rfl rfl rfl (by kernel_rfl) ?_
        refine y_k (.int .i64 (IntKind.i64.wrap (i8_6 + 1)) : Value) w_16 rfl rfl rfl (by kernel_rfl) ?_
        refine y_nil ?_
        refine y_then (hN11 (out7_15, IntKind.i64.wrap (i8_6 + 1)) _ _ h ?_)
        dsimp only
        refine upd_id ?_ rfl
        refine upd_id ?_ rfl
        refine upd_id ?_ rfl
        refine upd_id ?_ rfl
        rfl
      refine y_block ?_
      refine y_seq fun K16 hK16 => ?_
      refine y_region ?_
      refine y_k (.slice l0_1.a l0_1.n l0_1.c : Value) w_7 rfl rfl rfl (by kernel_rfl) ?_
      refine y_k (.int .i64 i8_6 : Value) w_7 rfl rfl rfl (by kernel_rfl) ?_
      obtain ⟨hx17a, hx17b, a_8, hx17, h⟩ := h
      refine y_v (v := (.pointer (some (a_8.add (Int.toNat i8_6))) : Value)) (s := Instr.indexAt 22 (.slice l0_1.a l0_1.n l0_1.c : Value) (.int .i64 i8_6 : Value)) rfl rfl rfl (by kernel_rfl) (run_ixs1 (el := 23) (by kernel_rfl) (by kernel_rfl) hx17 hx17a hx17b) ?_
      obtain ⟨t22_9, hx18, h⟩ := h
      refine y_v (s := Instr.loadAt 23 (.pointer (some (a_8.add (Int.toNat i8_6))))) rfl rfl rfl (by kernel_rfl) (rn_load (by kernel_rfl) hx18) ?_
      refine y_k (.int .u32 n1_2 : Value) w_7 rfl rfl rfl (by kernel_rfl) ?_
      refine y_k (.bool ((t22_9 != n1_2)) : Value) w_7 rfl rfl rfl (by kernel_rfl) ?_
      refine y_nil ?_
      refine y_then (hK16 _ _ ?_)
      refine y_cond ((t22_9 != n1_2)) rfl rfl (fun hb22 => ?_) (fun hb22 => ?_)
      · replace h := h.1 (bne_iff_ne.mp hb22)
        refine y_region ?_
        refine y_k (.slice out7_5.a out7_5.n out7_5.c : Value) w_7 rfl rfl rfl (by kernel_rfl) ?_
        refine y_k (.slice l0_1.a l0_1.n l0_1.c : Value) w_7 rfl rfl rfl (by kernel_rfl) ?_
        refine y_k (.int .i64 i8_6 : Value) w_7 rfl rfl rfl (by kernel_rfl) ?_
        obtain ⟨hx19a, hx19b, a_10, hx19, h⟩ := h
        refine y_v (v := (.pointer (some (a_10.add (Int.toNat i8_6))) : Value)) (s := Instr.indexAt 22 (.slice l0_1.a l0_1.n l0_1.c : Value) (.int .i64 i8_6 : Value)) rfl rfl rfl (by kernel_rfl) (run_ixs1 (el := 23) (by kernel_rfl) (by kernel_rfl) hx19 hx19a hx19b) ?_
        obtain ⟨t29_11, hx20, h⟩ := h
        refine y_v (s := Instr.loadAt 23 (.pointer (some (a_10.add (Int.toNat i8_6))))) rfl rfl rfl (by kernel_rfl) (rn_load (by kernel_rfl) hx20) ?_
        refine y_k (.slice (some ⟨w_7.heap.size, 0, none⟩) 1 1 : Value) (w_7.alloc (.cells #[.int .u32 t29_11] 23)) rfl rfl rfl (by kernel_rfl) ?_
        replace h := h _ rfl
        generalize w_7.alloc (.cells #[.int .u32 t29_11] 23) = w_12 at h ⊢
        obtain ⟨t31_13, w_14, hx21, h⟩ := h
        refine y_v (s := Builtin.append_ #[22, 22] 22 #[.slice out7_5.a out7_5.n out7_5.c, .slice (some ⟨w_7.heap.size, 0, none⟩) 1 1]) rfl rfl rfl (by kernel_rfl) hx21 ?_
        refine y_k (.slice t31_13.a t31_13.n t31_13.c : Value) w_14 rfl rfl rfl (by kernel_rfl) ?_
        refine y_nil ?_
        refine e_block_n ?_
        exact y_then (hjK14 _ t31_13 w_14 rfl rfl rfl rfl h)
      · replace h := h.2 (bne_eq_false_iff_eq.mp hb22)
        refine y_skip ?_
        refine e_block_n ?_
        exact y_then (hjK14 _ out7_5 w_7 rfl rfl rfl rfl h)
    · replace h := h.2 (of_decide_eq_false hb24)
      refine y_exit ?_
      repeat (first | refine e_then_x ?_ | refine e_block_y rfl ?_)
      refine e_block_x ?_
      refine y_then (hK7 _ _ ?_)
      refine y_seq fun K23 hK23 => ?_
      refine y_region ?_
      refine y_k (.slice out7_5.a out7_5.n out7_5.c : Value) w_7 rfl rfl rfl (by kernel_rfl) ?_
      refine y_k (.slice out7_5.a out7_5.n out7_5.c : Value) w_7 rfl rfl rfl (by kernel_rfl) ?_
      refine y_k (.int .i64 ((out7_5.n : Int)) : Value) w_7 rfl rfl rfl (by kernel_rfl) ?_
      refine y_k (.slice l0_1.a l0_1.n l0_1.c : Value) w_7 rfl rfl rfl (by kernel_rfl) ?_
      refine y_k (.int .i64 ((l0_1.n : Int)) : Value) w_7 rfl rfl rfl (by kernel_rfl) ?_
      refine y_k (.bool (decide (((out7_5.n : Int)) < ((l0_1.n : Int)))) : Value) w_7 rfl rfl rfl (by kernel_rfl) ?_
      refine y_k (.slice out7_5.a out7_5.n out7_5.c : Value) w_7 rfl rfl rfl (by kernel_rfl) ?_
      refine y_k (.bool (decide (((out7_5.n : Int)) < ((l0_1.n : Int)))) : Value) w_7 rfl rfl rfl (by kernel_rfl) ?_
      refine y_nil ?_
      refine y_then (hK23 _ _ ?_)
      refine y_ret ?_
      repeat (first | refine e_then_r ?_ | refine e_block_r ?_)
      exact (hQ0 _ _ _ (res2 (v1 := (.slice out7_5.a out7_5.n out7_5.c : Value)) (v2 := (.bool (decide (((out7_5.n : Int)) < ((l0_1.n : Int)))) : Value)) rfl rfl rfl rfl) ⟨_, _, rfl, h⟩).1

def F32_j2 (out7_7 : Sl) (i8_8 : Int) (next10 : (Sl × Int) → World → Prop) (n9_14 : Int) (w_15 : World) : Prop :=
  Calls Try.prog 70 #[.slice out7_7.a out7_7.n out7_7.c, .int .u64 n9_14] w_15 fun e w_17 => ∃ (t43_16 : Sl), e = .returned (.slice t43_16.a t43_16.n t43_16.c : Value) ∧
  next10 (t43_16, IntKind.i64.wrap (i8_8 + 1)) w_17
def F32_l1 (l1_2 : Sl) (K : Sl → Bool → World → Prop) (next10 : (Sl × Int) → World → Prop) : (Sl × Int) → World → Prop := fun (out7_7, i8_8) w_9 =>
  ((i8_8 < ((l1_2.n : Int)) →
  (0 : Int) ≤ i8_8 ∧ i8_8 < (l1_2.n : Int) ∧ ∃ (a_10 : Addr), l1_2.a = some a_10 ∧
  ∃ (t28_11 : Int), w_9.cell? (a_10.add (Int.toNat i8_8)) = some (.int .u32 t28_11) ∧
  ((i8_8 > 0 →
  (0 : Int) ≤ (IntKind.i64.wrap (i8_8 - 1)) ∧ (IntKind.i64.wrap (i8_8 - 1)) < (l1_2.n : Int) ∧ ∃ (a_12 : Addr), l1_2.a = some a_12 ∧
  ∃ (t37_13 : Int), w_9.cell? (a_12.add (Int.toNat (IntKind.i64.wrap (i8_8 - 1)))) = some (.int .u32 t37_13) ∧
  F32_j2 out7_7 i8_8 next10 (IntKind.u64.wrap ((IntKind.u64.wrap ((IntKind.u64.wrap t28_11) - (IntKind.u64.wrap t37_13))) - 1)) w_9) ∧
  (¬ (i8_8 > 0) →
  F32_j2 out7_7 i8_8 next10 (IntKind.u64.wrap t28_11) w_9))) ∧
  (¬ (i8_8 < ((l1_2.n : Int))) →
  K out7_7 true w_9))
/-- turnkey/turnkeyref12.Put -/
def F32 (b0_1 : Sl) (l1_2 : Sl) (K : Sl → Bool → World → Prop) (w : World) : Prop :=
  Calls Try.prog 35 #[.slice l1_2.a l1_2.n l1_2.c] w fun e w_4 => ∃ (t11_3 : Bool), e = .returned (.bool t11_3 : Value) ∧
  ((t11_3 = false →
  K (⟨none, 0, 0⟩) false w_4) ∧
  (t11_3 = true →
  Calls Try.prog 70 #[.slice b0_1.a b0_1.n b0_1.c, .int .u64 (IntKind.u64.wrap ((l1_2.n : Int)))] w_4 fun e w_6 => ∃ (t18_5 : Sl), e = .returned (.slice t18_5.a t18_5.n t18_5.c : Value) ∧
  kLoop (F32_l1 l1_2 K) (t18_5, 0) w_6))
set_option maxHeartbeats 4000000 in
set_option maxRecDepth 20000 in
theorem F32_sound (b0_1 : Sl) (l1_2 : Sl) (K : Sl → Bool → World → Prop) (w : World) (h : F32 b0_1 l1_2 K w) :
    Calls Try.prog 32 #[.slice b0_1.a b0_1.n b0_1.c, .slice l1_2.a l1_2.n l1_2.c] w (fun e w1 => ∃ (r0 : Sl), ∃ (r1 : Bool), e = .returned (.tuple #[.slice r0.a r0.n r0.c, .bool r1]) ∧ K r0 r1 w1) := by
  unfold F32 at h
  refine y_enter (n := 45) (args := [.slice b0_1.a b0_1.n b0_1.c, .slice l1_2.a l1_2.n l1_2.c]) Try.func32 rfl rfl rfl fun Q0 hQ0 => ?_
  refine y_seq fun K1 hK1 => ?_
  refine y_region ?_
  refine y_k (.slice none 0 0 : Value) w rfl rfl rfl (by kernel_rfl) ?_
  refine y_k (.bool false : Value) w rfl rfl rfl (by kernel_rfl) ?_
  refine y_nil ?_
  refine y_then (hK1 _ _ ?_)
  refine y_seq fun K2 hK2 => ?_
  refine y_region ?_
  refine y_k (.slice l1_2.a l1_2.n l1_2.c : Value) w rfl rfl rfl (by kernel_rfl) ?_
  refine y_call rfl rfl rfl (by kernel_rfl) (h.mono ?_)
  rintro _ w_4 ⟨t11_3, rfl, h⟩
  refine ⟨_, rfl, ?_⟩
  refine y_k (.bool t11_3 : Value) w_4 rfl rfl rfl (by kernel_rfl) ?_
  refine y_nil ?_
  refine y_then (hK2 _ _ ?_)
  refine y_seq fun K3 hK3 => ?_
  refine y_seq fun K4 hK4 => ?_
  refine y_region ?_
  refine y_k (.bool t11_3 : Value) w_4 rfl rfl rfl (by kernel_rfl) ?_
  refine y_k (.bool (!(t11_3)) : Value) w_4 rfl rfl rfl (by kernel_rfl) ?_
  refine y_nil ?_
  refine y_then (hK4 _ _ ?_)
  refine y_cond (!(t11_3)) rfl rfl (fun hb26 => ?_) (fun hb26 => ?_)
  · replace h := h.1 ((not_true_of hb26))
    refine y_seq fun K5 hK5 => ?_
    refine y_region ?_
    refine y_k (.slice none 0 0 : Value) w_4 rfl rfl rfl (by kernel_rfl) ?_
    refine y_k (.bool false : Value) w_4 rfl rfl rfl (by kernel_rfl) ?_
    refine y_nil ?_
    refine y_then (hK5 _ _ ?_)
    refine y_ret ?_
    repeat (first | refine e_then_r ?_ | refine e_block_r ?_)
    exact (hQ0 _ _ _ (res2 (v1 := (.slice none 0 0 : Value)) (v2 := (.bool false : Value)) rfl rfl rfl rfl) ⟨_, _, rfl, h⟩).1
  · replace h := h.2 ((not_false_of hb26))
    refine y_skip ?_
    refine y_then (hK3 _ _ ?_)
    refine y_seq fun K6 hK6 => ?_
    refine y_region ?_
    refine y_k (.slice b0_1.a b0_1.n b0_1.c : Value) w_4 rfl rfl rfl (by kernel_rfl) ?_
    refine y_k (.slice l1_2.a l1_2.n l1_2.c : Value) w_4 rfl rfl rfl (by kernel_rfl) ?_
    refine y_k (.int .i64 ((l1_2.n : Int)) : Value) w_4 rfl rfl rfl (by kernel_rfl) ?_
    refine y_k (.int .u64 (IntKind.u64.wrap ((l1_2.n : Int))) : Value) w_4 rfl rfl rfl (by kernel_rfl) ?_
    refine y_call rfl rfl rfl (by kernel_rfl) (h.mono ?_)
    rintro _ w_6 ⟨t18_5, rfl, h⟩
    refine ⟨_, rfl, ?_⟩
    refine y_k (.slice t18_5.a t18_5.n t18_5.c : Value) w_6 rfl rfl rfl (by kernel_rfl) ?_
    refine y_nil ?_
    refine y_then (hK6 _ _ ?_)
    refine y_seq fun K7 hK7 => ?_
    refine y_seq fun K8 hK8 => ?_
    refine y_region ?_
    refine y_k (.int .i64 0 : Value) w_6 rfl rfl rfl (by kernel_rfl) ?_
    refine y_nil ?_
    refine y_then (hK8 _ _ ?_)
    refine y_block ?_
    refine y_loop (S := Sl × Int) (fun s j => match s with | (out7_7, i8_8) => upd (upd (upd (j) 1 (.slice l1_2.a l1_2.n l1_2.c : Value)) 7 (.slice out7_7.a out7_7.n out7_7.c : Value)) 8 (.int .i64 i8_8 : Value)) (t18_5, 0) ?_ h ?_
    · dsimp only
      refine upd_id ?_ rfl
      refine upd_id ?_ rfl
      refine upd_id ?_ rfl
      rfl
    rintro KN11 next10 hN11 ⟨out7_7, i8_8⟩ j w_9 h
    unfold F32_l1 at h
    refine y_seq fun K12 hK12 => ?_
    refine y_seq fun K13 hK13 => ?_
    refine y_region ?_
    refine y_k (.int .i64 i8_8 : Value) w_9 rfl rfl rfl (by kernel_rfl) ?_
    refine y_k (.slice l1_2.a l1_2.n l1_2.c : Value) w_9 rfl rfl rfl (by kernel_rfl) ?_
    refine y_k (.int .i64 ((l1_2.n : Int)) : Value) w_9 rfl rfl rfl (by kernel_rfl) ?_
    refine y_k (.bool (decide (i8_8 < ((l1_2.n : Int)))) : Value) w_9 rfl rfl rfl (by kernel_rfl) ?_
    refine y_nil ?_
    refine y_then (hK13 _ _ ?_)
    refine y_cond (decide (i8_8 < ((l1_2.n : Int)))) rfl rfl (fun hb25 => ?_) (fun hb25 => ?_)
    · replace h := h.1 (of_decide_eq_true hb25)
      refine y_skip ?_
      refine y_then (hK12 _ _ ?_)
      refine y_seq fun K14 hK14 => ?_
      refine y_block ?_
      refine y_seq fun K16 hK16 => ?_
      refine y_region ?_
      refine y_k (.slice l1_2.a l1_2.n l1_2.c : Value) w_9 rfl rfl rfl (by kernel_rfl) ?_
      refine y_k (.int .i64 i8_8 : Value) w_9 rfl rfl rfl (by kernel_rfl) ?_
      obtain ⟨hx17a, hx17b, a_10, hx17, h⟩ := h
      refine y_v (v := (.pointer (some (a_10.add (Int.toNat i8_8))) : Value)) (s := Instr.indexAt 22 (.slice l1_2.a l1_2.n l1_2.c : Value) (.int .i64 i8_8 : Value)) rfl rfl rfl (by kernel_rfl) (run_ixs1 (el := 23) (by kernel_rfl) (by kernel_rfl) hx17 hx17a hx17b) ?_
      obtain ⟨t28_11, hx18, h⟩ := h
      refine y_v (s := Instr.loadAt 23 (.pointer (some (a_10.add (Int.toNat i8_8))))) rfl rfl rfl (by kernel_rfl) (rn_load (by kernel_rfl) hx18) ?_
      refine y_k (.int .u64 (IntKind.u64.wrap t28_11) : Value) w_9 rfl rfl rfl (by kernel_rfl) ?_
      refine y_k (.int .u64 (IntKind.u64.wrap t28_11) : Value) w_9 rfl rfl rfl (by kernel_rfl) ?_
      refine y_nil ?_
      refine y_then (hK16 _ _ ?_)
      refine y_seq fun K19 hK19 => ?_
      have hjK19 : ∀ (f : Fr) (n9_14 : Int) (w_15 : World), f 1 = (.slice l1_2.a l1_2.n l1_2.c : Value) → f 7 = (.slice out7_7.a out7_7.n out7_7.c : Value) → f 8 = (.int .i64 i8_8 : Value) → f 9 = (.int .u64 n9_14 : Value) → F32_j2 out7_7 i8_8 next10 n9_14 w_15 → WK K19 45 f w_15 := by
        intro f n9_14 w_15 e1 e7 e8 e9 h
        refine y_atf (upd_id (upd_id (upd_id (upd_id rfl e1) e7) e8) e9) ?_
        clear e1 e7 e8 e9
        unfold F32_j2 at h
        refine hK19 _ _ ?_
        refine y_region ?_
        refine y_k (.slice out7_7.a out7_7.n out7_7.c : Value) w_15 rfl rfl rfl (by kernel_rfl) ?_
        refine y_k (.int .u64 n9_14 : Value) w_15 rfl rfl rfl (by kernel_rfl) ?_
        refine y_call rfl rfl rfl (by kernel_rfl) (h.mono ?_)
        rintro _ w_17 ⟨t43_16, rfl, h⟩
        refine ⟨_, rfl, ?_⟩
        refine y_k (.slice t43_16.a t43_16.n t43_16.c : Value) w_17 rfl rfl rfl (by kernel_rfl) ?_
        refine y_nil ?_
        refine e_block_n ?_
        refine y_then (hK14 _ _ ?_)
        refine y_region ?_
        refine y_k (.int .i64 i8_8 : Value) w_17 rfl rfl rfl (by kernel_rfl) ?_
        refine y_k (.int .i64 (IntKind.i64.wrap (i8_8 + 1)) : Value) w_17 rfl rfl rfl (by kernel_rfl) ?_
        refine y_k (.int .i64 (IntKind.i64.wrap (i8_8 + 1)) : Value) w_17 rfl rfl rfl (by kernel_rfl) ?_
        refine y_nil ?_
        refine y_then (hN11 (t43_16, IntKind.i64.wrap (i8_8 + 1)) _ _ h ?_)
        dsimp only
        refine upd_id ?_ rfl
        refine upd_id ?_ rfl
        refine upd_id ?_ rfl
        rfl
      refine y_seq fun K20 hK20 => ?_
      refine y_region ?_
      refine y_k (.int .i64 i8_8 : Value) w_9 rfl rfl rfl (by kernel_rfl) ?_
      refine y_k (.bool (decide (i8_8 > 0)) : Value) w_9 rfl rfl rfl (by kernel_rfl) ?_
      refine y_nil ?_
      refine y_then (hK20 _ _ ?_)
      refine y_cond (decide (i8_8 > 0)) rfl rfl (fun hb23 => ?_) (fun hb23 => ?_)
      · replace h := h.1 (of_decide_eq_true hb23)
        refine y_region ?_
        refine y_k (.int .u64 (IntKind.u64.wrap t28_11) : Value) w_9 rfl rfl rfl (by kernel_rfl) ?_
        refine y_k (.slice l1_2.a l1_2.n l1_2.c : Value) w_9 rfl rfl rfl (by kernel_rfl) ?_
        refine y_k (.int .i64 i8_8 : Value) w_9 rfl rfl rfl (by kernel_rfl) ?_
        refine y_k (.int .i64 (IntKind.i64.wrap (i8_8 - 1)) : Value) w_9 rfl rfl rfl (by kernel_rfl) ?_
        obtain ⟨hx21a, hx21b, a_12, hx21, h⟩ := h
        refine y_v (v := (.pointer (some (a_12.add (Int.toNat (IntKind.i64.wrap (i8_8 - 1))))) : Value)) (s := Instr.indexAt 22 (.slice l1_2.a l1_2.n l1_2.c : Value) (.int .i64 (IntKind.i64.wrap (i8_8 - 1)) : Value)) rfl rfl rfl (by kernel_rfl) (run_ixs1 (el := 23) (by kernel_rfl) (by kernel_rfl) hx21 hx21a hx21b) ?_
        obtain ⟨t37_13, hx22, h⟩ := h
        refine y_v (s := Instr.loadAt 23 (.pointer (some (a_12.add (Int.toNat (IntKind.i64.wrap (i8_8 - 1))))))) rfl rfl rfl (by kernel_rfl) (rn_load (by kernel_rfl) hx22) ?_
        refine y_k (.int .u64 (IntKind.u64.wrap t37_13) : Value) w_9 rfl rfl rfl (by kernel_rfl) ?_
        refine y_k (.int .u64 (IntKind.u64.wrap ((IntKind.u64.wrap t28_11) - (IntKind.u64.wrap t37_13))) : Value) w_9 rfl rfl rfl (by kernel_rfl) ?_
        refine y_k (.int .u64 (IntKind.u64.wrap ((IntKind.u64.wrap ((IntKind.u64.wrap t28_11) - (IntKind.u64.wrap t37_13))) - 1)) : Value) w_9 rfl rfl rfl (by kernel_rfl) ?_
        refine y_k (.int .u64 (IntKind.u64.wrap ((IntKind.u64.wrap ((IntKind.u64.wrap t28_11) - (IntKind.u64.wrap t37_13))) - 1)) : Value) w_9 rfl rfl rfl (by kernel_rfl) ?_
        refine y_nil ?_
        exact y_then (hjK19 _ (IntKind.u64.wrap ((IntKind.u64.wrap ((IntKind.u64.wrap t28_11) - (IntKind.u64.wrap t37_13))) - 1)) w_9 rfl rfl rfl rfl h)
      · replace h := h.2 (of_decide_eq_false hb23)
        refine y_skip ?_
        exact y_then (hjK19 _ (IntKind.u64.wrap t28_11) w_9 rfl rfl rfl rfl h)
    · replace h := h.2 (of_decide_eq_false hb25)
      refine y_exit ?_
      repeat (first | refine e_then_x ?_ | refine e_block_y rfl ?_)
      refine e_block_x ?_
      refine y_then (hK7 _ _ ?_)
      refine y_seq fun K24 hK24 => ?_
      refine y_region ?_
      refine y_k (.slice out7_7.a out7_7.n out7_7.c : Value) w_9 rfl rfl rfl (by kernel_rfl) ?_
      refine y_k (.slice out7_7.a out7_7.n out7_7.c : Value) w_9 rfl rfl rfl (by kernel_rfl) ?_
      refine y_k (.bool true : Value) w_9 rfl rfl rfl (by kernel_rfl) ?_
      refine y_nil ?_
      refine y_then (hK24 _ _ ?_)
      refine y_ret ?_
      repeat (first | refine e_then_r ?_ | refine e_block_r ?_)
      exact (hQ0 _ _ _ (res2 (v1 := (.slice out7_7.a out7_7.n out7_7.c : Value)) (v2 := (.bool true : Value)) rfl rfl rfl rfl) ⟨_, _, rfl, h⟩).1

def F34_j2 (K : Sl → Int → World → Prop) (at5_5 : Int) (out6_6 : Sl) (i7_7 : Int) (next12 : (Int × Sl × Int) → World → Prop) (t35_11 : Int) (d8_15 : Int) (w_16 : World) : Prop :=
  ((d8_15 > 4294967295 →
  K (⟨none, 0, 0⟩) 0 w_16) ∧
  (¬ (d8_15 > 4294967295) →
  ∀ (w_17 : World), w_17 = w_16.alloc (.cells #[.int .u32 (IntKind.u32.wrap d8_15)] 23) →
  ∃ (t61_18 : Sl), ∃ (w_19 : World), (Builtin.append_ #[22, 22] 22 #[.slice out6_6.a out6_6.n out6_6.c, .slice (some ⟨w_16.heap.size, 0, none⟩) 1 1]).run Try.prog w_17 = .ok (.slice t61_18.a t61_18.n t61_18.c : Value) w_19 ∧
  next12 (IntKind.i64.wrap (at5_5 + t35_11), t61_18, IntKind.u64.wrap (i7_7 + 1)) w_19))
def F34_l1 (b0_1 : Sl) (K : Sl → Int → World → Prop) (t12_2 : Int) (next12 : (Int × Sl × Int) → World → Prop) : (Int × Sl × Int) → World → Prop := fun (at5_5, out6_6, i7_7) w_8 =>
  ((i7_7 < t12_2 →
  ∃ (t34_9 : Sl), (Instr.sliceAt 33 (.slice b0_1.a b0_1.n b0_1.c : Value) (some (.int .i64 at5_5 : Value)) none none).run Try.prog w_8 = .ok (.slice t34_9.a t34_9.n t34_9.c : Value) w_8 ∧
  Calls Try.prog 72 #[.slice t34_9.a t34_9.n t34_9.c] w_8 fun e w_12 => ∃ (t35_10 : Int), ∃ (t35_11 : Int), e = .returned (.tuple #[.int .u64 t35_10, .int .i64 t35_11] : Value) ∧
  ((t35_11 = 0 →
  K (⟨none, 0, 0⟩) 0 w_12) ∧
  (¬ t35_11 = 0 →
  ((t35_10 > 4294967295 →
  K (⟨none, 0, 0⟩) 0 w_12) ∧
  (¬ (t35_10 > 4294967295) →
  ((i7_7 > 0 →
  (0 : Int) ≤ (IntKind.u64.wrap (i7_7 - 1)) ∧ (IntKind.u64.wrap (i7_7 - 1)) < (out6_6.n : Int) ∧ ∃ (a_13 : Addr), out6_6.a = some a_13 ∧
  ∃ (t51_14 : Int), w_12.cell? (a_13.add (Int.toNat (IntKind.u64.wrap (i7_7 - 1)))) = some (.int .u32 t51_14) ∧
  F34_j2 K at5_5 out6_6 i7_7 next12 t35_11 (IntKind.u64.wrap ((IntKind.u64.wrap (t35_10 + (IntKind.u64.wrap t51_14))) + 1)) w_12) ∧
  (¬ (i7_7 > 0) →
  F34_j2 K at5_5 out6_6 i7_7 next12 t35_11 t35_10 w_12))))))) ∧
  (¬ (i7_7 < t12_2) →
  K out6_6 at5_5 w_8))
/-- turnkey/turnkeyref12.Get -/
def F34 (b0_1 : Sl) (K : Sl → Int → World → Prop) (w : World) : Prop :=
  Calls Try.prog 72 #[.slice b0_1.a b0_1.n b0_1.c] w fun e w_4 => ∃ (t12_2 : Int), ∃ (t12_3 : Int), e = .returned (.tuple #[.int .u64 t12_2, .int .i64 t12_3] : Value) ∧
  ((t12_3 = 0 →
  K (⟨none, 0, 0⟩) 0 w_4) ∧
  (¬ t12_3 = 0 →
  ((t12_2 > (IntKind.u64.wrap (IntKind.i64.wrap (((b0_1.n : Int)) - t12_3))) →
  K (⟨none, 0, 0⟩) 0 w_4) ∧
  (¬ (t12_2 > (IntKind.u64.wrap (IntKind.i64.wrap (((b0_1.n : Int)) - t12_3)))) →
  kLoop (F34_l1 b0_1 K t12_2) (t12_3, ⟨none, 0, 0⟩, 0) w_4))))
set_option maxHeartbeats 4000000 in
set_option maxRecDepth 20000 in
theorem F34_sound (b0_1 : Sl) (K : Sl → Int → World → Prop) (w : World) (h : F34 b0_1 K w) :
    Calls Try.prog 34 #[.slice b0_1.a b0_1.n b0_1.c] w (fun e w1 => ∃ (r0 : Sl), ∃ (r1 : Int), e = .returned (.tuple #[.slice r0.a r0.n r0.c, .int .i64 r1]) ∧ K r0 r1 w1) := by
  unfold F34 at h
  refine y_enter (n := 67) (args := [.slice b0_1.a b0_1.n b0_1.c]) Try.func34 rfl rfl rfl fun Q0 hQ0 => ?_
  refine y_seq fun K1 hK1 => ?_
  refine y_region ?_
  refine y_k (.slice none 0 0 : Value) w rfl rfl rfl (by kernel_rfl) ?_
  refine y_k (.int .i64 0 : Value) w rfl rfl rfl (by kernel_rfl) ?_
  refine y_nil ?_
  refine y_then (hK1 _ _ ?_)
  refine y_seq fun K2 hK2 => ?_
  refine y_region ?_
  refine y_k (.slice b0_1.a b0_1.n b0_1.c : Value) w rfl rfl rfl (by kernel_rfl) ?_
  refine y_call rfl rfl rfl (by kernel_rfl) (h.mono ?_)
  rintro _ w_4 ⟨t12_2, t12_3, rfl, h⟩
  refine ⟨_, rfl, ?_⟩
  refine y_k (.tuple #[.int .u64 t12_2, .int .i64 t12_3] : Value) w_4 rfl rfl rfl (by kernel_rfl) ?_
  refine y_k (.int .u64 t12_2 : Value) w_4 rfl rfl rfl (by kernel_rfl) ?_
  refine y_k (.int .i64 t12_3 : Value) w_4 rfl rfl rfl (by kernel_rfl) ?_
  refine y_k (.int .u64 t12_2 : Value) w_4 rfl rfl rfl (by kernel_rfl) ?_
  refine y_k (.int .i64 t12_3 : Value) w_4 rfl rfl rfl (by kernel_rfl) ?_
  refine y_nil ?_
  refine y_then (hK2 _ _ ?_)
  refine y_seq fun K3 hK3 => ?_
  refine y_seq fun K4 hK4 => ?_
  refine y_region ?_
  refine y_k (.int .i64 t12_3 : Value) w_4 rfl rfl rfl (by kernel_rfl) ?_
  refine y_k (.bool ((t12_3 == 0)) : Value) w_4 rfl rfl rfl (by kernel_rfl) ?_
  refine y_k (.bool ((t12_3 == 0)) : Value) w_4 rfl rfl rfl (by kernel_rfl) ?_
  refine y_fork ((t12_3 == 0)) (fun hb5 => ?_) (fun hb5 => ?_)
  · replace h := h.1 (eq_of_beq hb5)
    refine y_frame (upd_id (i := 17) (v := .bool true) rfl (congrArg Value.bool hb5)) ?_
    refine y_gno rfl rfl rfl rfl ?_
    refine y_gno rfl rfl rfl rfl ?_
    refine y_gno rfl rfl rfl rfl ?_
    refine y_gno rfl rfl rfl rfl ?_
    refine y_gno rfl rfl rfl rfl ?_
    refine y_gno rfl rfl rfl rfl ?_
    refine y_gno rfl rfl rfl rfl ?_
    refine y_k (.bool true : Value) w_4 rfl rfl rfl (by kernel_rfl) ?_
    refine y_nil ?_
    refine y_then (hK4 _ _ ?_)
    refine y_cond_t rfl rfl ?_
    refine y_seq fun K6 hK6 => ?_
    refine y_region ?_
    refine y_k (.slice none 0 0 : Value) w_4 rfl rfl rfl (by kernel_rfl) ?_
    refine y_k (.int .i64 0 : Value) w_4 rfl rfl rfl (by kernel_rfl) ?_
    refine y_nil ?_
    refine y_then (hK6 _ _ ?_)
    refine y_ret ?_
    repeat (first | refine e_then_r ?_ | refine e_block_r ?_)
    exact (hQ0 _ _ _ (res2 (v1 := (.slice none 0 0 : Value)) (v2 := (.int .i64 0 : Value)) rfl rfl rfl rfl) ⟨_, _, rfl, h⟩).1
  · replace h := h.2 (beq_eq_false_iff_ne.mp hb5)
    refine y_frame (upd_id (i := 17) (v := .bool false) rfl (congrArg Value.bool hb5)) ?_
    refine y_gyes rfl rfl rfl ?_
    refine y_k (.int .u64 t12_2 : Value) w_4 rfl rfl rfl (by kernel_rfl) ?_
    refine y_gyes rfl rfl rfl ?_
    refine y_k (.slice b0_1.a b0_1.n b0_1.c : Value) w_4 rfl rfl rfl (by kernel_rfl) ?_
    refine y_gyes rfl rfl rfl ?_
    refine y_k (.int .i64 ((b0_1.n : Int)) : Value) w_4 rfl rfl rfl (by kernel_rfl) ?_
    refine y_gyes rfl rfl rfl ?_
    refine y_k (.int .i64 t12_3 : Value) w_4 rfl rfl rfl (by kernel_rfl) ?_
    refine y_gyes rfl rfl rfl ?_
    refine y_k (.int .i64 (IntKind.i64.wrap (((b0_1.n : Int)) - t12_3)) : Value) w_4 rfl rfl rfl (by kernel_rfl) ?_
    refine y_gyes rfl rfl rfl ?_
    refine y_k (.int .u64 (IntKind.u64.wrap (IntKind.i64.wrap (((b0_1.n : Int)) - t12_3))) : Value) w_4 rfl rfl rfl (by kernel_rfl) ?_
    refine y_gyes rfl rfl rfl ?_
    refine y_k (.bool (decide (t12_2 > (IntKind.u64.wrap (IntKind.i64.wrap (((b0_1.n : Int)) - t12_3))))) : Value) w_4 rfl rfl rfl (by kernel_rfl) ?_
    refine y_k (.bool (decide (t12_2 > (IntKind.u64.wrap (IntKind.i64.wrap (((b0_1.n : Int)) - t12_3))))) : Value) w_4 rfl rfl rfl (by kernel_rfl) ?_
    refine y_nil ?_
    refine y_then (hK4 _ _ ?_)
    refine y_cond (decide (t12_2 > (IntKind.u64.wrap (IntKind.i64.wrap (((b0_1.n : Int)) - t12_3))))) rfl rfl (fun hb39 => ?_) (fun hb39 => ?_)
    · replace h := h.1 (of_decide_eq_true hb39)
      refine y_seq fun K7 hK7 => ?_
      refine y_region ?_
      refine y_k (.slice none 0 0 : Value) w_4 rfl rfl rfl (by kernel_rfl) ?_
      refine y_k (.int .i64 0 : Value) w_4 rfl rfl rfl (by kernel_rfl) ?_
      refine y_nil ?_
      refine y_then (hK7 _ _ ?_)
      refine y_ret ?_
      repeat (first | refine e_then_r ?_ | refine e_block_r ?_)
      exact (hQ0 _ _ _ (res2 (v1 := (.slice none 0 0 : Value)) (v2 := (.int .i64 0 : Value)) rfl rfl rfl rfl) ⟨_, _, rfl, h⟩).1
    · replace h := h.2 (of_decide_eq_false hb39)
      refine y_skip ?_
      refine y_then (hK3 _ _ ?_)
      refine y_seq fun K8 hK8 => ?_
      refine y_region ?_
      refine y_k (.slice none 0 0 : Value) w_4 rfl rfl rfl (by kernel_rfl) ?_
      refine y_nil ?_
      refine y_then (hK8 _ _ ?_)
      refine y_seq fun K9 hK9 => ?_
      refine y_seq fun K10 hK10 => ?_
      refine y_region ?_
      refine y_k (.int .u64 0 : Value) w_4 rfl rfl rfl (by kernel_rfl) ?_
      refine y_nil ?_
      refine y_then (hK10 _ _ ?_)
      refine y_block ?_
      refine y_loop (S := Int × Sl × Int) (fun s j => match s with | (at5_5, out6_6, i7_7) => upd (upd (upd (upd (upd (j) 0 (.slice b0_1.a b0_1.n b0_1.c : Value)) 4 (.int .u64 t12_2 : Value)) 5 (.int .i64 at5_5 : Value)) 6 (.slice out6_6.a out6_6.n out6_6.c : Value)) 7 (.int .u64 i7_7 : Value)) (t12_3, ⟨none, 0, 0⟩, 0) ?_ h ?_
      · dsimp only
        refine upd_id ?_ rfl
        refine upd_id ?_ rfl
        refine upd_id ?_ rfl
        refine upd_id ?_ rfl
        refine upd_id ?_ rfl
        rfl
      rintro KN13 next12 hN13 ⟨at5_5, out6_6, i7_7⟩ j w_8 h
      unfold F34_l1 at h
      refine y_seq fun K14 hK14 => ?_
      refine y_seq fun K15 hK15 => ?_
      refine y_region ?_
      refine y_k (.int .u64 i7_7 : Value) w_8 rfl rfl rfl (by kernel_rfl) ?_
      refine y_k (.int .u64 t12_2 : Value) w_8 rfl rfl rfl (by kernel_rfl) ?_
      refine y_k (.bool (decide (i7_7 < t12_2)) : Value) w_8 rfl rfl rfl (by kernel_rfl) ?_
      refine y_nil ?_
      refine y_then (hK15 _ _ ?_)
      refine y_cond (decide (i7_7 < t12_2)) rfl rfl (fun hb38 => ?_) (fun hb38 => ?_)
      · replace h := h.1 (of_decide_eq_true hb38)
        refine y_skip ?_
        refine y_then (hK14 _ _ ?_)
        refine y_seq fun K16 hK16 => ?_
        refine y_block ?_
        refine y_seq fun K18 hK18 => ?_
        refine y_region ?_
        refine y_k (.slice b0_1.a b0_1.n b0_1.c : Value) w_8 rfl rfl rfl (by kernel_rfl) ?_
        refine y_k (.int .i64 at5_5 : Value) w_8 rfl rfl rfl (by kernel_rfl) ?_
        obtain ⟨t34_9, hx19, h⟩ := h
        refine y_v (s := Instr.sliceAt 33 (.slice b0_1.a b0_1.n b0_1.c : Value) (some (.int .i64 at5_5 : Value)) none none) rfl rfl rfl (by kernel_rfl) (hx19) ?_
        refine y_call rfl rfl rfl (by kernel_rfl) (h.mono ?_)
        rintro _ w_12 ⟨t35_10, t35_11, rfl, h⟩
        refine ⟨_, rfl, ?_⟩
        refine y_k (.tuple #[.int .u64 t35_10, .int .i64 t35_11] : Value) w_12 rfl rfl rfl (by kernel_rfl) ?_
        refine y_k (.int .u64 t35_10 : Value) w_12 rfl rfl rfl (by kernel_rfl) ?_
        refine y_k (.int .i64 t35_11 : Value) w_12 rfl rfl rfl (by kernel_rfl) ?_
        refine y_k (.int .u64 t35_10 : Value) w_12 rfl rfl rfl (by kernel_rfl) ?_
        refine y_k (.int .i64 t35_11 : Value) w_12 rfl rfl rfl (by kernel_rfl) ?_
        refine y_nil ?_
        refine y_then (hK18 _ _ ?_)
        refine y_seq fun K20 hK20 => ?_
        refine y_seq fun K21 hK21 => ?_
        refine y_region ?_
        refine y_k (.int .i64 t35_11 : Value) w_12 rfl rfl rfl (by kernel_rfl) ?_
        refine y_k (.bool ((t35_11 == 0)) : Value) w_12 rfl rfl rfl (by kernel_rfl) ?_
        refine y_k (.bool ((t35_11 == 0)) : Value) w_12 rfl rfl rfl (by kernel_rfl) ?_
        refine y_fork ((t35_11 == 0)) (fun hb22 => ?_) (fun hb22 => ?_)
        · replace h := h.1 (eq_of_beq hb22)
          refine y_frame (upd_id (i := 40) (v := .bool true) rfl (congrArg Value.bool hb22)) ?_
          refine y_gno rfl rfl rfl rfl ?_
          refine y_gno rfl rfl rfl rfl ?_
          refine y_k (.bool true : Value) w_12 rfl rfl rfl (by kernel_rfl) ?_
          refine y_nil ?_
          refine y_then (hK21 _ _ ?_)
          refine y_cond_t rfl rfl ?_
          refine y_seq fun K23 hK23 => ?_
          refine y_region ?_
          refine y_k (.slice none 0 0 : Value) w_12 rfl rfl rfl (by kernel_rfl) ?_
          refine y_k (.int .i64 0 : Value) w_12 rfl rfl rfl (by kernel_rfl) ?_
          refine y_nil ?_
          refine y_then (hK23 _ _ ?_)
          refine y_ret ?_
          repeat (first | refine e_then_r ?_ | refine e_block_r ?_)
          exact (hQ0 _ _ _ (res2 (v1 := (.slice none 0 0 : Value)) (v2 := (.int .i64 0 : Value)) rfl rfl rfl rfl) ⟨_, _, rfl, h⟩).1
        · replace h := h.2 (beq_eq_false_iff_ne.mp hb22)
          refine y_frame (upd_id (i := 40) (v := .bool false) rfl (congrArg Value.bool hb22)) ?_
          refine y_gyes rfl rfl rfl ?_
          refine y_k (.int .u64 t35_10 : Value) w_12 rfl rfl rfl (by kernel_rfl) ?_
          refine y_gyes rfl rfl rfl ?_
          refine y_k (.bool (decide (t35_10 > 4294967295)) : Value) w_12 rfl rfl rfl (by kernel_rfl) ?_
          refine y_k (.bool (decide (t35_10 > 4294967295)) : Value) w_12 rfl rfl rfl (by kernel_rfl) ?_
          refine y_nil ?_
          refine y_then (hK21 _ _ ?_)
          refine y_cond (decide (t35_10 > 4294967295)) rfl rfl (fun hb36 => ?_) (fun hb36 => ?_)
          · replace h := h.1 (of_decide_eq_true hb36)
            refine y_seq fun K24 hK24 => ?_
            refine y_region ?_
            refine y_k (.slice none 0 0 : Value) w_12 rfl rfl rfl (by kernel_rfl) ?_
            refine y_k (.int .i64 0 : Value) w_12 rfl rfl rfl (by kernel_rfl) ?_
            refine y_nil ?_
            refine y_then (hK24 _ _ ?_)
            refine y_ret ?_
            repeat (first | refine e_then_r ?_ | refine e_block_r ?_)
            exact (hQ0 _ _ _ (res2 (v1 := (.slice none 0 0 : Value)) (v2 := (.int .i64 0 : Value)) rfl rfl rfl rfl) ⟨_, _, rfl, h⟩).1
          · replace h := h.2 (of_decide_eq_false hb36)
            refine y_skip ?_
            refine y_then (hK20 _ _ ?_)
            refine y_seq fun K25 hK25 => ?_
            have hjK25 : ∀ (f : Fr) (d8_15 : Int) (w_16 : World), f 0 = (.slice b0_1.a b0_1.n b0_1.c : Value) → f 4 = (.int .u64 t12_2 : Value) → f 5 = (.int .i64 at5_5 : Value) → f 6 = (.slice out6_6.a out6_6.n out6_6.c : Value) → f 7 = (.int .u64 i7_7 : Value) → f 8 = (.int .u64 d8_15 : Value) → f 9 = (.int .i64 t35_11 : Value) → F34_j2 K at5_5 out6_6 i7_7 next12 t35_11 d8_15 w_16 → WK K25 67 f w_16 := by
              intro f d8_15 w_16 e0 e4 e5 e6 e7 e8 e9 h
              refine y_atf (upd_id (upd_id (upd_id (upd_id (upd_id (upd_id (upd_id rfl e0) e4) e5) e6) e7) e8) e9) ?_
              clear e0 e4 e5 e6 e7 e8 e9
              unfold F34_j2 at h
              refine hK25 _ _ ?_
              refine y_seq fun K29 hK29 => ?_
              refine y_seq fun K30 hK30 => ?_
              refine y_region ?_
              refine y_k (.int .u64 d8_15 : Value) w_16 rfl rfl rfl (by kernel_rfl) ?_
              refine y_k (.bool (decide (d8_15 > 4294967295)) : Value) w_16 rfl rfl rfl (by kernel_rfl) ?_
              refine y_nil ?_
              refine y_then (hK30 _ _ ?_)
              refine y_cond (decide (d8_15 > 4294967295)) rfl rfl (fun hb34 => ?_) (fun hb34 => ?_)
              · replace h := h.1 (of_decide_eq_true hb34)
                refine y_seq fun K31 hK31 => ?_
                refine y_region ?_
                refine y_k (.slice none 0 0 : Value) w_16 rfl rfl rfl (by kernel_rfl) ?_
                refine y_k (.int .i64 0 : Value) w_16 rfl rfl rfl (by kernel_rfl) ?_
                refine y_nil ?_
                refine y_then (hK31 _ _ ?_)
                refine y_ret ?_
                repeat (first | refine e_then_r ?_ | refine e_block_r ?_)
                exact (hQ0 _ _ _ (res2 (v1 := (.slice none 0 0 : Value)) (v2 := (.int .i64 0 : Value)) rfl rfl rfl rfl) ⟨_, _, rfl, h⟩).1
              · replace h := h.2 (of_decide_eq_false hb34)
                refine y_skip ?_
                refine y_then (hK29 _ _ ?_)
                refine y_seq fun K32 hK32 => ?_
                refine y_region ?_
                refine y_k (.slice out6_6.a out6_6.n out6_6.c : Value) w_16 rfl rfl rfl (by kernel_rfl) ?_
                refine y_k (.int .u64 d8_15 : Value) w_16 rfl rfl rfl (by kernel_rfl) ?_
                refine y_k (.int .u32 (IntKind.u32.wrap d8_15) : Value) w_16 rfl rfl rfl (by kernel_rfl) ?_
                refine y_k (.slice (some ⟨w_16.heap.size, 0, none⟩) 1 1 : Value) (w_16.alloc (.cells #[.int .u32 (IntKind.u32.wrap d8_15)] 23)) rfl rfl rfl (by kernel_rfl) ?_
                replace h := h _ rfl
                generalize w_16.alloc (.cells #[.int .u32 (IntKind.u32.wrap d8_15)] 23) = w_17 at h ⊢
                obtain ⟨t61_18, w_19, hx33, h⟩ := h
                refine y_v (s := Builtin.append_ #[22, 22] 22 #[.slice out6_6.a out6_6.n out6_6.c, .slice (some ⟨w_16.heap.size, 0, none⟩) 1 1]) rfl rfl rfl (by kernel_rfl) hx33 ?_
                refine y_k (.slice t61_18.a t61_18.n t61_18.c : Value) w_19 rfl rfl rfl (by kernel_rfl) ?_
                refine y_nil ?_
                refine y_then (hK32 _ _ ?_)
                refine y_region ?_
                refine y_k (.int .i64 at5_5 : Value) w_19 rfl rfl rfl (by kernel_rfl) ?_
                refine y_k (.int .i64 t35_11 : Value) w_19 rfl rfl rfl (by kernel_rfl) ?_
                refine y_k (.int .i64 (IntKind.i64.wrap (at5_5 + t35_11)) : Value) w_19 rfl rfl rfl (by kernel_rfl) ?_
                refine y_k (.int .i64 (IntKind.i64.wrap (at5_5 + t35_11)) : Value) w_19 rfl rfl rfl (by kernel_rfl) ?_
                refine y_nil ?_
                refine e_block_n ?_
                refine y_then (hK16 _ _ ?_)
                refine y_region ?_
                refine y_k (.int .u64 i7_7 : Value) w_19 rfl rfl rfl (by kernel_rfl) ?_
                refine y_k (.int .u64 (IntKind.u64.wrap (i7_7 + 1)) : Value) w_19 rfl rfl rfl (by kernel_rfl) ?_
                refine y_k (.int .u64 (IntKind.u64.wrap (i7_7 + 1)) : Value) w_19 rfl rfl rfl (by kernel_rfl) ?_
                refine y_nil ?_
                refine y_then (hN13 (IntKind.i64.wrap (at5_5 + t35_11), t61_18, IntKind.u64.wrap (i7_7 + 1)) _ _ h ?_)
                dsimp only
                refine upd_id ?_ rfl
                refine upd_id ?_ rfl
                refine upd_id ?_ rfl
                refine upd_id ?_ rfl
                refine upd_id ?_ rfl
                rfl
            refine y_seq fun K26 hK26 => ?_
            refine y_region ?_
            refine y_k (.int .u64 i7_7 : Value) w_12 rfl rfl rfl (by kernel_rfl) ?_
            refine y_k (.bool (decide (i7_7 > 0)) : Value) w_12 rfl rfl rfl (by kernel_rfl) ?_
            refine y_nil ?_
            refine y_then (hK26 _ _ ?_)
            refine y_cond (decide (i7_7 > 0)) rfl rfl (fun hb35 => ?_) (fun hb35 => ?_)
            · replace h := h.1 (of_decide_eq_true hb35)
              refine y_region ?_
              refine y_k (.int .u64 t35_10 : Value) w_12 rfl rfl rfl (by kernel_rfl) ?_
              refine y_k (.slice out6_6.a out6_6.n out6_6.c : Value) w_12 rfl rfl rfl (by kernel_rfl) ?_
              refine y_k (.int .u64 i7_7 : Value) w_12 rfl rfl rfl (by kernel_rfl) ?_
              refine y_k (.int .u64 (IntKind.u64.wrap (i7_7 - 1)) : Value) w_12 rfl rfl rfl (by kernel_rfl) ?_
              obtain ⟨hx27a, hx27b, a_13, hx27, h⟩ := h
              refine y_v (v := (.pointer (some (a_13.add (Int.toNat (IntKind.u64.wrap (i7_7 - 1))))) : Value)) (s := Instr.indexAt 22 (.slice out6_6.a out6_6.n out6_6.c : Value) (.int .u64 (IntKind.u64.wrap (i7_7 - 1)) : Value)) rfl rfl rfl (by kernel_rfl) (run_ixs1 (el := 23) (by kernel_rfl) (by kernel_rfl) hx27 hx27a hx27b) ?_
              obtain ⟨t51_14, hx28, h⟩ := h
              refine y_v (s := Instr.loadAt 23 (.pointer (some (a_13.add (Int.toNat (IntKind.u64.wrap (i7_7 - 1))))))) rfl rfl rfl (by kernel_rfl) (rn_load (by kernel_rfl) hx28) ?_
              refine y_k (.int .u64 (IntKind.u64.wrap t51_14) : Value) w_12 rfl rfl rfl (by kernel_rfl) ?_
              refine y_k (.int .u64 (IntKind.u64.wrap (t35_10 + (IntKind.u64.wrap t51_14))) : Value) w_12 rfl rfl rfl (by kernel_rfl) ?_
              refine y_k (.int .u64 (IntKind.u64.wrap ((IntKind.u64.wrap (t35_10 + (IntKind.u64.wrap t51_14))) + 1)) : Value) w_12 rfl rfl rfl (by kernel_rfl) ?_
              refine y_k (.int .u64 (IntKind.u64.wrap ((IntKind.u64.wrap (t35_10 + (IntKind.u64.wrap t51_14))) + 1)) : Value) w_12 rfl rfl rfl (by kernel_rfl) ?_
              refine y_nil ?_
              exact y_then (hjK25 _ (IntKind.u64.wrap ((IntKind.u64.wrap (t35_10 + (IntKind.u64.wrap t51_14))) + 1)) w_12 rfl rfl rfl rfl rfl rfl rfl h)
            · replace h := h.2 (of_decide_eq_false hb35)
              refine y_skip ?_
              exact y_then (hjK25 _ t35_10 w_12 rfl rfl rfl rfl rfl rfl rfl h)
      · replace h := h.2 (of_decide_eq_false hb38)
        refine y_exit ?_
        repeat (first | refine e_then_x ?_ | refine e_block_y rfl ?_)
        refine e_block_x ?_
        refine y_then (hK9 _ _ ?_)
        refine y_seq fun K37 hK37 => ?_
        refine y_region ?_
        refine y_k (.slice out6_6.a out6_6.n out6_6.c : Value) w_8 rfl rfl rfl (by kernel_rfl) ?_
        refine y_k (.int .i64 at5_5 : Value) w_8 rfl rfl rfl (by kernel_rfl) ?_
        refine y_k (.slice out6_6.a out6_6.n out6_6.c : Value) w_8 rfl rfl rfl (by kernel_rfl) ?_
        refine y_k (.int .i64 at5_5 : Value) w_8 rfl rfl rfl (by kernel_rfl) ?_
        refine y_nil ?_
        refine y_then (hK37 _ _ ?_)
        refine y_ret ?_
        repeat (first | refine e_then_r ?_ | refine e_block_r ?_)
        exact (hQ0 _ _ _ (res2 (v1 := (.slice out6_6.a out6_6.n out6_6.c : Value)) (v2 := (.int .i64 at5_5 : Value)) rfl rfl rfl rfl) ⟨_, _, rfl, h⟩).1

end Go.Proofs.Ytjgijifankaglaa
