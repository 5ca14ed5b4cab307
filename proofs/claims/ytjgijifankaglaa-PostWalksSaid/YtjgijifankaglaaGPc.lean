/- Printed by gen.py (own program, wip/): for each Go function a predicate transformer and its soundness. -/
import Derived.Test.YtjgijifankaglaaProg
import Derived.Test.YtjgijifankaglaaST
namespace Go.Proofs.Ytjgijifankaglaa
open Go Go.RowKit Go.Proofs.Ytjgijifankaglaa.SX
set_option linter.unusedVariables false

def F23_l1 (a0_1 : Sl) (b1_2 : Sl) (K : Bool → World → Prop) (next8 : (Int) → World → Prop) : (Int) → World → Prop := fun (i5_3) w_4 =>
  ((i5_3 < ((a0_1.n : Int)) →
  (0 : Int) ≤ i5_3 ∧ i5_3 < (a0_1.n : Int) ∧ ∃ (a_5 : Addr), a0_1.a = some a_5 ∧
  ∃ (t20_6 : Int), w_4.cell? (a_5.add (Int.toNat i5_3)) = some (.int .u32 t20_6) ∧
  (0 : Int) ≤ i5_3 ∧ i5_3 < (b1_2.n : Int) ∧ ∃ (a_7 : Addr), b1_2.a = some a_7 ∧
  ∃ (t24_8 : Int), w_4.cell? (a_7.add (Int.toNat i5_3)) = some (.int .u32 t24_8) ∧
  ∀ (w_9 : World), (∃ m, w_9 = w_4.drewN m) →
  ((¬ t20_6 = t24_8 →
  K false w_9) ∧
  (t20_6 = t24_8 →
  next8 (IntKind.i64.wrap (i5_3 + 1)) w_9))) ∧
  (¬ (i5_3 < ((a0_1.n : Int))) →
  K true w_4))
/-- turnkey/turnkeylaw12.same -/
def F23 (a0_1 : Sl) (b1_2 : Sl) (K : Bool → World → Prop) (w : World) : Prop :=
  ((¬ (((a0_1.n : Int))) = (((b1_2.n : Int))) →
  K false w) ∧
  ((((a0_1.n : Int))) = (((b1_2.n : Int))) →
  kLoop (F23_l1 a0_1 b1_2 K) (0) w))
set_option maxHeartbeats 4000000 in
set_option maxRecDepth 20000 in
theorem F23_sound (a0_1 : Sl) (b1_2 : Sl) (K : Bool → World → Prop) (w : World) (h : F23 a0_1 b1_2 K w) :
    Calls Try.prog 23 #[.slice a0_1.a a0_1.n a0_1.c, .slice b1_2.a b1_2.n b1_2.c] w (fun e w1 => ∃ (r0 : Bool), e = .returned (.bool r0 : Value) ∧ K r0 w1) := by
  unfold F23 at h
  refine y_enter (n := 26) (args := [.slice a0_1.a a0_1.n a0_1.c, .slice b1_2.a b1_2.n b1_2.c]) Try.func23 rfl rfl rfl fun Q0 hQ0 => ?_
  refine y_seq fun K1 hK1 => ?_
  refine y_region ?_
  refine y_k (.bool false : Value) w rfl rfl rfl (by kernel_rfl) ?_
  refine y_nil ?_
  refine y_then (hK1 _ _ ?_)
  refine y_seq fun K2 hK2 => ?_
  refine y_seq fun K3 hK3 => ?_
  refine y_region ?_
  refine y_k (.slice a0_1.a a0_1.n a0_1.c : Value) w rfl rfl rfl (by kernel_rfl) ?_
  refine y_k (.int .i64 ((a0_1.n : Int)) : Value) w rfl rfl rfl (by kernel_rfl) ?_
  refine y_k (.slice b1_2.a b1_2.n b1_2.c : Value) w rfl rfl rfl (by kernel_rfl) ?_
  refine y_k (.int .i64 ((b1_2.n : Int)) : Value) w rfl rfl rfl (by kernel_rfl) ?_
  refine y_k (.bool (((((a0_1.n : Int))) != (((b1_2.n : Int))))) : Value) w rfl rfl rfl (by kernel_rfl) ?_
  refine y_nil ?_
  refine y_then (hK3 _ _ ?_)
  refine y_cond (((((a0_1.n : Int))) != (((b1_2.n : Int))))) rfl rfl (fun hb25 => ?_) (fun hb25 => ?_)
  · replace h := h.1 (bne_iff_ne.mp hb25)
    refine y_seq fun K4 hK4 => ?_
    refine y_region ?_
    refine y_k (.bool false : Value) w rfl rfl rfl (by kernel_rfl) ?_
    refine y_nil ?_
    refine y_then (hK4 _ _ ?_)
    refine y_ret ?_
    repeat (first | refine e_then_r ?_ | refine e_block_r ?_)
    exact (hQ0 _ _ _ (res1 (v := (.bool false : Value)) rfl rfl rfl) ⟨_, rfl, h⟩).1
  · replace h := h.2 (bne_eq_false_iff_eq.mp hb25)
    refine y_skip ?_
    refine y_then (hK2 _ _ ?_)
    refine y_seq fun K5 hK5 => ?_
    refine y_seq fun K6 hK6 => ?_
    refine y_region ?_
    refine y_k (.int .i64 0 : Value) w rfl rfl rfl (by kernel_rfl) ?_
    refine y_nil ?_
    refine y_then (hK6 _ _ ?_)
    refine y_block ?_
    refine y_loop (S := Int) (fun s j => match s with | (i5_3) => upd (upd (upd (j) 0 (.slice a0_1.a a0_1.n a0_1.c : Value)) 1 (.slice b1_2.a b1_2.n b1_2.c : Value)) 5 (.int .i64 i5_3 : Value)) (0) ?_ h ?_
    · dsimp only
      refine upd_id ?_ rfl
      refine upd_id ?_ rfl
      refine upd_id ?_ rfl
      rfl
    rintro KN9 next8 hN9 i5_3 j w_4 h
    unfold F23_l1 at h
    refine y_seq fun K10 hK10 => ?_
    refine y_seq fun K11 hK11 => ?_
    refine y_region ?_
    refine y_k (.int .i64 i5_3 : Value) w_4 rfl rfl rfl (by kernel_rfl) ?_
    refine y_k (.slice a0_1.a a0_1.n a0_1.c : Value) w_4 rfl rfl rfl (by kernel_rfl) ?_
    refine y_k (.int .i64 ((a0_1.n : Int)) : Value) w_4 rfl rfl rfl (by kernel_rfl) ?_
    refine y_k (.bool (decide (i5_3 < ((a0_1.n : Int)))) : Value) w_4 rfl rfl rfl (by kernel_rfl) ?_
    refine y_nil ?_
    refine y_then (hK11 _ _ ?_)
    refine y_cond (decide (i5_3 < ((a0_1.n : Int)))) rfl rfl (fun hb24 => ?_) (fun hb24 => ?_)
    · replace h := h.1 (of_decide_eq_true hb24)
      refine y_skip ?_
      refine y_then (hK10 _ _ ?_)
      refine y_seq fun K12 hK12 => ?_
      refine y_block ?_
      refine y_seq fun K14 hK14 => ?_
      refine q_region (by kernel_rfl) (by kernel_rfl) fun Qq15 hQq15 => ?_
      refine q_k (.slice a0_1.a a0_1.n a0_1.c : Value) rfl rfl rfl (fun _ => by kernel_rfl) ?_
      refine q_k (.int .i64 i5_3 : Value) rfl rfl rfl (fun _ => by kernel_rfl) ?_
      obtain ⟨hx16a, hx16b, a_5, hx16, h⟩ := h
      refine q_v (v := (.pointer (some (a_5.add (Int.toNat i5_3))) : Value)) (s := Instr.indexAt 22 (.slice a0_1.a a0_1.n a0_1.c : Value) (.int .i64 i5_3 : Value)) rfl rfl rfl (by kernel_rfl) (fun _ => run_ixs1 (el := 23) (by kernel_rfl) (by kernel_rfl) hx16 hx16a hx16b) ?_
      obtain ⟨t20_6, hx17, h⟩ := h
      refine q_v (v := (.int .u32 t20_6 : Value)) (s := Instr.loadAt 23 (.pointer (some (a_5.add (Int.toNat i5_3))))) rfl rfl rfl (by kernel_rfl) (fun _ => rn_load (by kernel_rfl) hx17) ?_
      refine q_k (.slice b1_2.a b1_2.n b1_2.c : Value) rfl rfl rfl (fun _ => by kernel_rfl) ?_
      refine q_k (.int .i64 i5_3 : Value) rfl rfl rfl (fun _ => by kernel_rfl) ?_
      obtain ⟨hx18a, hx18b, a_7, hx18, h⟩ := h
      refine q_v (v := (.pointer (some (a_7.add (Int.toNat i5_3))) : Value)) (s := Instr.indexAt 22 (.slice b1_2.a b1_2.n b1_2.c : Value) (.int .i64 i5_3 : Value)) rfl rfl rfl (by kernel_rfl) (fun _ => run_ixs1 (el := 23) (by kernel_rfl) (by kernel_rfl) hx18 hx18a hx18b) ?_
      obtain ⟨t24_8, hx19, h⟩ := h
      refine q_v (v := (.int .u32 t24_8 : Value)) (s := Instr.loadAt 23 (.pointer (some (a_7.add (Int.toNat i5_3))))) rfl rfl rfl (by kernel_rfl) (fun _ => rn_load (by kernel_rfl) hx19) ?_
      refine q_k (.bool ((t20_6 != t24_8)) : Value) rfl rfl rfl (fun _ => by kernel_rfl) ?_
      refine q_nil (hQq15 _ fun m22 => ?_)
      replace h := h _ ⟨m22, rfl⟩
      generalize w_4.drewN m22 = w_9 at h ⊢
      refine y_then (hK14 _ _ ?_)
      refine y_cond ((t20_6 != t24_8)) rfl rfl (fun hb21 => ?_) (fun hb21 => ?_)
      · replace h := h.1 (bne_iff_ne.mp hb21)
        refine y_seq fun K20 hK20 => ?_
        refine y_region ?_
        refine y_k (.bool false : Value) w_9 rfl rfl rfl (by kernel_rfl) ?_
        refine y_nil ?_
        refine y_then (hK20 _ _ ?_)
        refine y_ret ?_
        repeat (first | refine e_then_r ?_ | refine e_block_r ?_)
        exact (hQ0 _ _ _ (res1 (v := (.bool false : Value)) rfl rfl rfl) ⟨_, rfl, h⟩).1
      · replace h := h.2 (bne_eq_false_iff_eq.mp hb21)
        refine y_skip ?_
        refine e_block_n ?_
        refine y_then (hK12 _ _ ?_)
        refine y_region ?_
        refine y_k (.int .i64 i5_3 : Value) w_9 rfl rfl rfl (by kernel_rfl) ?_
        refine y_k (.int .i64 (IntKind.i64.wrap (i5_3 + 1)) : Value) w_9 rfl rfl rfl (by kernel_rfl) ?_
        refine y_k (.int .i64 (IntKind.i64.wrap (i5_3 + 1)) : Value) w_9 rfl rfl rfl (by kernel_rfl) ?_
        refine y_nil ?_
        refine y_then (hN9 (IntKind.i64.wrap (i5_3 + 1)) _ _ h ?_)
        dsimp only
        refine upd_id ?_ rfl
        refine upd_id ?_ rfl
        refine upd_id ?_ rfl
        rfl
    · replace h := h.2 (of_decide_eq_false hb24)
      refine y_exit ?_
      repeat (first | refine e_then_x ?_ | refine e_block_y rfl ?_)
      refine e_block_x ?_
      refine y_then (hK5 _ _ ?_)
      refine y_seq fun K23 hK23 => ?_
      refine y_region ?_
      refine y_k (.bool true : Value) w_4 rfl rfl rfl (by kernel_rfl) ?_
      refine y_nil ?_
      refine y_then (hK23 _ _ ?_)
      refine y_ret ?_
      repeat (first | refine e_then_r ?_ | refine e_block_r ?_)
      exact (hQ0 _ _ _ (res1 (v := (.bool true : Value)) rfl rfl rfl) ⟨_, rfl, h⟩).1

/-- turnkey/turnkeylaw12.short -/
def F14 (l0_1 : Sl) (K : Sl → World → Prop) (w : World) : Prop :=
  ((((l0_1.n : Int)) > 400 →
  ∃ (t7_2 : Sl), (Instr.sliceAt 22 (.slice l0_1.a l0_1.n l0_1.c : Value) none (some (.int .i64 400 : Value)) none).run Try.prog w = .ok (.slice t7_2.a t7_2.n t7_2.c : Value) w ∧
  K t7_2 w) ∧
  (¬ (((l0_1.n : Int)) > 400) →
  K l0_1 w))
set_option maxHeartbeats 4000000 in
set_option maxRecDepth 20000 in
theorem F14_sound (l0_1 : Sl) (K : Sl → World → Prop) (w : World) (h : F14 l0_1 K w) :
    Calls Try.prog 14 #[.slice l0_1.a l0_1.n l0_1.c] w (fun e w1 => ∃ (r0 : Sl), e = .returned (.slice r0.a r0.n r0.c : Value) ∧ K r0 w1) := by
  unfold F14 at h
  refine y_enter (n := 9) (args := [.slice l0_1.a l0_1.n l0_1.c]) Try.func14 rfl rfl rfl fun Q0 hQ0 => ?_
  refine y_seq fun K1 hK1 => ?_
  refine y_region ?_
  refine y_k (.slice none 0 0 : Value) w rfl rfl rfl (by kernel_rfl) ?_
  refine y_nil ?_
  refine y_then (hK1 _ _ ?_)
  refine y_seq fun K2 hK2 => ?_
  refine y_seq fun K3 hK3 => ?_
  refine y_region ?_
  refine y_k (.slice l0_1.a l0_1.n l0_1.c : Value) w rfl rfl rfl (by kernel_rfl) ?_
  refine y_k (.int .i64 ((l0_1.n : Int)) : Value) w rfl rfl rfl (by kernel_rfl) ?_
  refine y_k (.bool (decide (((l0_1.n : Int)) > 400)) : Value) w rfl rfl rfl (by kernel_rfl) ?_
  refine y_nil ?_
  refine y_then (hK3 _ _ ?_)
  refine y_cond (decide (((l0_1.n : Int)) > 400)) rfl rfl (fun hb7 => ?_) (fun hb7 => ?_)
  · replace h := h.1 (of_decide_eq_true hb7)
    refine y_seq fun K4 hK4 => ?_
    refine y_region ?_
    refine y_k (.slice l0_1.a l0_1.n l0_1.c : Value) w rfl rfl rfl (by kernel_rfl) ?_
    obtain ⟨t7_2, hx5, h⟩ := h
    refine y_v (s := Instr.sliceAt 22 (.slice l0_1.a l0_1.n l0_1.c : Value) none (some (.int .i64 400 : Value)) none) rfl rfl rfl (by kernel_rfl) (hx5) ?_
    refine y_k (.slice t7_2.a t7_2.n t7_2.c : Value) w rfl rfl rfl (by kernel_rfl) ?_
    refine y_nil ?_
    refine y_then (hK4 _ _ ?_)
    refine y_ret ?_
    repeat (first | refine e_then_r ?_ | refine e_block_r ?_)
    exact (hQ0 _ _ _ (res1 (v := (.slice t7_2.a t7_2.n t7_2.c : Value)) rfl rfl rfl) ⟨_, rfl, h⟩).1
  · replace h := h.2 (of_decide_eq_false hb7)
    refine y_skip ?_
    refine y_then (hK2 _ _ ?_)
    refine y_seq fun K6 hK6 => ?_
    refine y_region ?_
    refine y_k (.slice l0_1.a l0_1.n l0_1.c : Value) w rfl rfl rfl (by kernel_rfl) ?_
    refine y_k (.slice l0_1.a l0_1.n l0_1.c : Value) w rfl rfl rfl (by kernel_rfl) ?_
    refine y_nil ?_
    refine y_then (hK6 _ _ ?_)
    refine y_ret ?_
    repeat (first | refine e_then_r ?_ | refine e_block_r ?_)
    exact (hQ0 _ _ _ (res1 (v := (.slice l0_1.a l0_1.n l0_1.c : Value)) rfl rfl rfl) ⟨_, rfl, h⟩).1

/-- turnkey/turnkeylaw12.lent -/
def F15 (l0_1 : Sl) (K : Sl → World → Prop) (w : World) : Prop :=
  ∃ (t6_2 : Sl), ∃ (w_3 : World), (Builtin.append_ #[22, 22] 22 #[.slice none 0 0, .slice l0_1.a l0_1.n l0_1.c]).run Try.prog w = .ok (.slice t6_2.a t6_2.n t6_2.c : Value) w_3 ∧
  ∀ (w_4 : World), w_4 = w_3.alloc (.cells #[.int .u32 4294967295, .int .u32 4294967295, .int .u32 4294967295] 23) →
  ∃ (t9_5 : Sl), ∃ (w_6 : World), (Builtin.append_ #[22, 22] 22 #[.slice t6_2.a t6_2.n t6_2.c, .slice (some ⟨w_3.heap.size, 0, none⟩) 3 3]).run Try.prog w_4 = .ok (.slice t9_5.a t9_5.n t9_5.c : Value) w_6 ∧
  ∃ (t13_7 : Sl), (Instr.sliceAt 22 (.slice t9_5.a t9_5.n t9_5.c : Value) none (some (.int .i64 ((l0_1.n : Int)) : Value)) none).run Try.prog w_6 = .ok (.slice t13_7.a t13_7.n t13_7.c : Value) w_6 ∧
  K t13_7 w_6
set_option maxHeartbeats 4000000 in
set_option maxRecDepth 20000 in
theorem F15_sound (l0_1 : Sl) (K : Sl → World → Prop) (w : World) (h : F15 l0_1 K w) :
    Calls Try.prog 15 #[.slice l0_1.a l0_1.n l0_1.c] w (fun e w1 => ∃ (r0 : Sl), e = .returned (.slice r0.a r0.n r0.c : Value) ∧ K r0 w1) := by
  unfold F15 at h
  refine y_enter (n := 14) (args := [.slice l0_1.a l0_1.n l0_1.c]) Try.func15 rfl rfl rfl fun Q0 hQ0 => ?_
  refine y_seq fun K1 hK1 => ?_
  refine y_region ?_
  refine y_k (.slice none 0 0 : Value) w rfl rfl rfl (by kernel_rfl) ?_
  refine y_nil ?_
  refine y_then (hK1 _ _ ?_)
  refine y_seq fun K2 hK2 => ?_
  refine y_region ?_
  refine y_k (.slice none 0 0 : Value) w rfl rfl rfl (by kernel_rfl) ?_
  refine y_nil ?_
  refine y_then (hK2 _ _ ?_)
  refine y_seq fun K3 hK3 => ?_
  refine y_region ?_
  refine y_k (.slice none 0 0 : Value) w rfl rfl rfl (by kernel_rfl) ?_
  refine y_k (.slice l0_1.a l0_1.n l0_1.c : Value) w rfl rfl rfl (by kernel_rfl) ?_
  obtain ⟨t6_2, w_3, hx4, h⟩ := h
  refine y_v (s := Builtin.append_ #[22, 22] 22 #[.slice none 0 0, .slice l0_1.a l0_1.n l0_1.c]) rfl rfl rfl (by kernel_rfl) hx4 ?_
  refine y_k (.slice t6_2.a t6_2.n t6_2.c : Value) w_3 rfl rfl rfl (by kernel_rfl) ?_
  refine y_nil ?_
  refine y_then (hK3 _ _ ?_)
  refine y_seq fun K5 hK5 => ?_
  refine y_region ?_
  refine y_k (.slice t6_2.a t6_2.n t6_2.c : Value) w_3 rfl rfl rfl (by kernel_rfl) ?_
  refine y_k (.slice (some ⟨w_3.heap.size, 0, none⟩) 3 3 : Value) (w_3.alloc (.cells #[.int .u32 4294967295, .int .u32 4294967295, .int .u32 4294967295] 23)) rfl rfl rfl (by kernel_rfl) ?_
  replace h := h _ rfl
  generalize w_3.alloc (.cells #[.int .u32 4294967295, .int .u32 4294967295, .int .u32 4294967295] 23) = w_4 at h ⊢
  obtain ⟨t9_5, w_6, hx6, h⟩ := h
  refine y_v (s := Builtin.append_ #[22, 22] 22 #[.slice t6_2.a t6_2.n t6_2.c, .slice (some ⟨w_3.heap.size, 0, none⟩) 3 3]) rfl rfl rfl (by kernel_rfl) hx6 ?_
  refine y_k (.slice t9_5.a t9_5.n t9_5.c : Value) w_6 rfl rfl rfl (by kernel_rfl) ?_
  refine y_nil ?_
  refine y_then (hK5 _ _ ?_)
  refine y_seq fun K7 hK7 => ?_
  refine y_region ?_
  refine y_k (.slice t9_5.a t9_5.n t9_5.c : Value) w_6 rfl rfl rfl (by kernel_rfl) ?_
  refine y_k (.slice l0_1.a l0_1.n l0_1.c : Value) w_6 rfl rfl rfl (by kernel_rfl) ?_
  refine y_k (.int .i64 ((l0_1.n : Int)) : Value) w_6 rfl rfl rfl (by kernel_rfl) ?_
  obtain ⟨t13_7, hx8, h⟩ := h
  refine y_v (s := Instr.sliceAt 22 (.slice t9_5.a t9_5.n t9_5.c : Value) none (some (.int .i64 ((l0_1.n : Int)) : Value)) none) rfl rfl rfl (by kernel_rfl) (hx8) ?_
  refine y_k (.slice t13_7.a t13_7.n t13_7.c : Value) w_6 rfl rfl rfl (by kernel_rfl) ?_
  refine y_nil ?_
  refine y_then (hK7 _ _ ?_)
  refine y_ret ?_
  repeat (first | refine e_then_r ?_ | refine e_block_r ?_)
  exact (hQ0 _ _ _ (res1 (v := (.slice t13_7.a t13_7.n t13_7.c : Value)) rfl rfl rfl) ⟨_, rfl, h⟩).1

def F30_j1 (K : Bool → World → Prop) (t4_10 : Bool) (w_11 : World) : Prop :=
  K t4_10 w_11
/-- turnkey/turnkeylaw12.still -/
def F30 (l0_1 : Sl) (was1_2 : Sl) (K : Bool → World → Prop) (w : World) : Prop :=
  ∃ (t10_3 : Sl), (Instr.sliceAt 22 (.slice l0_1.a l0_1.n l0_1.c : Value) none (some (.int .i64 (IntKind.i64.wrap (((was1_2.n : Int)) + 3)) : Value)) none).run Try.prog w = .ok (.slice t10_3.a t10_3.n t10_3.c : Value) w ∧
  Calls Try.prog 23 #[.slice l0_1.a l0_1.n l0_1.c, .slice was1_2.a was1_2.n was1_2.c] w fun e w_5 => ∃ (t13_4 : Bool), e = .returned (.bool t13_4 : Value) ∧
  ((t13_4 = true →
  ∃ (t18_6 : Sl), (Instr.sliceAt 22 (.slice t10_3.a t10_3.n t10_3.c : Value) (some (.int .i64 ((was1_2.n : Int)) : Value)) none none).run Try.prog w_5 = .ok (.slice t18_6.a t18_6.n t18_6.c : Value) w_5 ∧
  ∀ (w_7 : World), w_7 = w_5.alloc (.cells #[.int .u32 4294967295, .int .u32 4294967295, .int .u32 4294967295] 23) →
  Calls Try.prog 23 #[.slice t18_6.a t18_6.n t18_6.c, .slice (some ⟨w_5.heap.size, 0, none⟩) 3 3] w_7 fun e w_9 => ∃ (t20_8 : Bool), e = .returned (.bool t20_8 : Value) ∧
  F30_j1 K t20_8 w_9) ∧
  (t13_4 = false →
  F30_j1 K false w_5))
set_option maxHeartbeats 4000000 in
set_option maxRecDepth 20000 in
theorem F30_sound (l0_1 : Sl) (was1_2 : Sl) (K : Bool → World → Prop) (w : World) (h : F30 l0_1 was1_2 K w) :
    Calls Try.prog 30 #[.slice l0_1.a l0_1.n l0_1.c, .slice was1_2.a was1_2.n was1_2.c] w (fun e w1 => ∃ (r0 : Bool), e = .returned (.bool r0 : Value) ∧ K r0 w1) := by
  unfold F30 at h
  refine y_enter (n := 22) (args := [.slice l0_1.a l0_1.n l0_1.c, .slice was1_2.a was1_2.n was1_2.c]) Try.func30 rfl rfl rfl fun Q0 hQ0 => ?_
  refine y_seq fun K1 hK1 => ?_
  refine y_region ?_
  refine y_k (.bool false : Value) w rfl rfl rfl (by kernel_rfl) ?_
  refine y_nil ?_
  refine y_then (hK1 _ _ ?_)
  refine y_seq fun K2 hK2 => ?_
  refine y_region ?_
  refine y_k (.slice l0_1.a l0_1.n l0_1.c : Value) w rfl rfl rfl (by kernel_rfl) ?_
  refine y_k (.slice was1_2.a was1_2.n was1_2.c : Value) w rfl rfl rfl (by kernel_rfl) ?_
  refine y_k (.int .i64 ((was1_2.n : Int)) : Value) w rfl rfl rfl (by kernel_rfl) ?_
  refine y_k (.int .i64 (IntKind.i64.wrap (((was1_2.n : Int)) + 3)) : Value) w rfl rfl rfl (by kernel_rfl) ?_
  obtain ⟨t10_3, hx3, h⟩ := h
  refine y_v (s := Instr.sliceAt 22 (.slice l0_1.a l0_1.n l0_1.c : Value) none (some (.int .i64 (IntKind.i64.wrap (((was1_2.n : Int)) + 3)) : Value)) none) rfl rfl rfl (by kernel_rfl) (hx3) ?_
  refine y_k (.slice t10_3.a t10_3.n t10_3.c : Value) w rfl rfl rfl (by kernel_rfl) ?_
  refine y_nil ?_
  refine y_then (hK2 _ _ ?_)
  refine y_seq fun K4 hK4 => ?_
  have hjK4 : ∀ (f : Fr) (t4_10 : Bool) (w_11 : World), f 4 = (.bool t4_10 : Value) → F30_j1 K t4_10 w_11 → WK K4 22 f w_11 := by
    intro f t4_10 w_11 e4 h
    refine y_atf (upd_id rfl e4) ?_
    clear e4
    unfold F30_j1 at h
    refine hK4 _ _ ?_
    refine y_ret ?_
    repeat (first | refine e_then_r ?_ | refine e_block_r ?_)
    exact (hQ0 _ _ _ (res1 (v := (.bool t4_10 : Value)) rfl rfl rfl) ⟨_, rfl, h⟩).1
  refine y_region ?_
  refine y_k (.slice l0_1.a l0_1.n l0_1.c : Value) w rfl rfl rfl (by kernel_rfl) ?_
  refine y_k (.slice was1_2.a was1_2.n was1_2.c : Value) w rfl rfl rfl (by kernel_rfl) ?_
  refine y_call rfl rfl rfl (by kernel_rfl) (h.mono ?_)
  rintro _ w_5 ⟨t13_4, rfl, h⟩
  refine ⟨_, rfl, ?_⟩
  refine y_k (.bool t13_4 : Value) w_5 rfl rfl rfl (by kernel_rfl) ?_
  refine y_fork (t13_4) (fun hb5 => ?_) (fun hb5 => ?_)
  · replace h := h.1 (hb5)
    refine y_frame (upd_id (i := 14) (v := .bool true) rfl (congrArg Value.bool hb5)) ?_
    refine y_gyes rfl rfl rfl ?_
    refine y_k (.slice t10_3.a t10_3.n t10_3.c : Value) w_5 rfl rfl rfl (by kernel_rfl) ?_
    refine y_gyes rfl rfl rfl ?_
    refine y_k (.slice was1_2.a was1_2.n was1_2.c : Value) w_5 rfl rfl rfl (by kernel_rfl) ?_
    refine y_gyes rfl rfl rfl ?_
    refine y_k (.int .i64 ((was1_2.n : Int)) : Value) w_5 rfl rfl rfl (by kernel_rfl) ?_
    refine y_gyes rfl rfl rfl ?_
    obtain ⟨t18_6, hx6, h⟩ := h
    refine y_v (s := Instr.sliceAt 22 (.slice t10_3.a t10_3.n t10_3.c : Value) (some (.int .i64 ((was1_2.n : Int)) : Value)) none none) rfl rfl rfl (by kernel_rfl) (hx6) ?_
    refine y_gyes rfl rfl rfl ?_
    refine y_k (.slice (some ⟨w_5.heap.size, 0, none⟩) 3 3 : Value) (w_5.alloc (.cells #[.int .u32 4294967295, .int .u32 4294967295, .int .u32 4294967295] 23)) rfl rfl rfl (by kernel_rfl) ?_
    replace h := h _ rfl
    generalize w_5.alloc (.cells #[.int .u32 4294967295, .int .u32 4294967295, .int .u32 4294967295] 23) = w_7 at h ⊢
    refine y_gyes rfl rfl rfl ?_
    refine y_call rfl rfl rfl (by kernel_rfl) (h.mono ?_)
    rintro _ w_9 ⟨t20_8, rfl, h⟩
    refine ⟨_, rfl, ?_⟩
    refine y_k (.bool t20_8 : Value) w_9 rfl rfl rfl (by kernel_rfl) ?_
    refine y_k (.bool t20_8 : Value) w_9 rfl rfl rfl (by kernel_rfl) ?_
    refine y_nil ?_
    exact y_then (hjK4 _ t20_8 w_9 rfl h)
  · replace h := h.2 (hb5)
    refine y_frame (upd_id (i := 14) (v := .bool false) rfl (congrArg Value.bool hb5)) ?_
    refine y_gno rfl rfl rfl rfl ?_
    refine y_gno rfl rfl rfl rfl ?_
    refine y_gno rfl rfl rfl rfl ?_
    refine y_gno rfl rfl rfl rfl ?_
    refine y_gno rfl rfl rfl rfl ?_
    refine y_gno rfl rfl rfl rfl ?_
    refine y_k (.bool false : Value) w_5 rfl rfl rfl (by kernel_rfl) ?_
    refine y_k (.bool false : Value) w_5 rfl rfl rfl (by kernel_rfl) ?_
    refine y_nil ?_
    exact y_then (hjK4 _ false w_5 rfl h)

def F29_l2 (K : World → Prop) (next14 : (Sl × Int) → World → Prop) : (Sl × Int) → World → Prop := fun (l0_6, i3_7) w_8 =>
  ((i3_7 < 9 →
  ∀ (w_9 : World), w_9 = w_8.alloc (.cells #[.int .u32 7] 23) →
  ∃ (t19_10 : Sl), ∃ (w_11 : World), (Builtin.append_ #[22, 22] 22 #[.slice l0_6.a l0_6.n l0_6.c, .slice (some ⟨w_8.heap.size, 0, none⟩) 1 1]).run Try.prog w_9 = .ok (.slice t19_10.a t19_10.n t19_10.c : Value) w_11 ∧
  next14 (t19_10, IntKind.i64.wrap (i3_7 + 1)) w_11) ∧
  (¬ (i3_7 < 9) →
  K w_8))
def F29_l1 (l0_1 : Sl) (K : World → Prop) (next4 : (Int) → World → Prop) : (Int) → World → Prop := fun (i2_2) w_3 =>
  ((i2_2 < ((l0_1.n : Int)) →
  (0 : Int) ≤ i2_2 ∧ i2_2 < (l0_1.n : Int) ∧ ∃ (a_4 : Addr), l0_1.a = some a_4 ∧
  HasCell w_3 (a_4.add (Int.toNat i2_2)) ∧ ∀ (w_5 : World), w_5 = w_3.setCell (a_4.add (Int.toNat i2_2)) (.int .u32 7 : Value) →
  next4 (IntKind.i64.wrap (i2_2 + 1)) w_5) ∧
  (¬ (i2_2 < ((l0_1.n : Int))) →
  kLoop (F29_l2 K) (l0_1, 0) w_3))
/-- turnkey/turnkeylaw12.owned -/
def F29 (l0_1 : Sl) (K : World → Prop) (w : World) : Prop :=
  kLoop (F29_l1 l0_1 K) (0) w
set_option maxHeartbeats 4000000 in
set_option maxRecDepth 20000 in
theorem F29_sound (l0_1 : Sl) (K : World → Prop) (w : World) (h : F29 l0_1 K w) :
    Calls Try.prog 29 #[.slice l0_1.a l0_1.n l0_1.c] w (fun e w1 => e = .returned (.tuple #[]) ∧ K  w1) := by
  unfold F29 at h
  refine y_enter (n := 20) (args := [.slice l0_1.a l0_1.n l0_1.c]) Try.func29 rfl rfl rfl fun Q0 hQ0 => ?_
  refine y_seq fun K1 hK1 => ?_
  refine y_seq fun K2 hK2 => ?_
  refine y_region ?_
  refine y_k (.int .i64 0 : Value) w rfl rfl rfl (by kernel_rfl) ?_
  refine y_nil ?_
  refine y_then (hK2 _ _ ?_)
  refine y_block ?_
  refine y_loop (S := Int) (fun s j => match s with | (i2_2) => upd (upd (j) 0 (.slice l0_1.a l0_1.n l0_1.c : Value)) 2 (.int .i64 i2_2 : Value)) (0) ?_ h ?_
  · dsimp only
    refine upd_id ?_ rfl
    refine upd_id ?_ rfl
    rfl
  rintro KN5 next4 hN5 i2_2 j w_3 h
  unfold F29_l1 at h
  refine y_seq fun K6 hK6 => ?_
  refine y_seq fun K7 hK7 => ?_
  refine y_region ?_
  refine y_k (.int .i64 i2_2 : Value) w_3 rfl rfl rfl (by kernel_rfl) ?_
  refine y_k (.slice l0_1.a l0_1.n l0_1.c : Value) w_3 rfl rfl rfl (by kernel_rfl) ?_
  refine y_k (.int .i64 ((l0_1.n : Int)) : Value) w_3 rfl rfl rfl (by kernel_rfl) ?_
  refine y_k (.bool (decide (i2_2 < ((l0_1.n : Int)))) : Value) w_3 rfl rfl rfl (by kernel_rfl) ?_
  refine y_nil ?_
  refine y_then (hK7 _ _ ?_)
  refine y_cond (decide (i2_2 < ((l0_1.n : Int)))) rfl rfl (fun hb22 => ?_) (fun hb22 => ?_)
  · replace h := h.1 (of_decide_eq_true hb22)
    refine y_skip ?_
    refine y_then (hK6 _ _ ?_)
    refine y_seq fun K8 hK8 => ?_
    refine y_block ?_
    refine y_region ?_
    refine y_k (.slice l0_1.a l0_1.n l0_1.c : Value) w_3 rfl rfl rfl (by kernel_rfl) ?_
    refine y_k (.int .i64 i2_2 : Value) w_3 rfl rfl rfl (by kernel_rfl) ?_
    obtain ⟨hx10a, hx10b, a_4, hx10, h⟩ := h
    refine y_v (v := (.pointer (some (a_4.add (Int.toNat i2_2))) : Value)) (s := Instr.indexAt 22 (.slice l0_1.a l0_1.n l0_1.c : Value) (.int .i64 i2_2 : Value)) rfl rfl rfl (by kernel_rfl) (run_ixs1 (el := 23) (by kernel_rfl) (by kernel_rfl) hx10 hx10a hx10b) ?_
    obtain ⟨hx11, h⟩ := h
    replace h := h _ rfl
    refine y_u (s := Instr.storeAt 23 (.pointer (some (a_4.add (Int.toNat i2_2)))) (.int .u32 7 : Value)) rfl rfl (by kernel_rfl) (rn_store1 (by kernel_rfl) rfl hx11) ?_
    generalize w_3.setCell (a_4.add (Int.toNat i2_2)) (.int .u32 7 : Value) = w_5 at h ⊢
    refine y_nil ?_
    refine e_block_n ?_
    refine y_then (hK8 _ _ ?_)
    refine y_region ?_
    refine y_k (.int .i64 i2_2 : Value) w_5 rfl rfl rfl (by kernel_rfl) ?_
    refine y_k (.int .i64 (IntKind.i64.wrap (i2_2 + 1)) : Value) w_5 rfl rfl rfl (by kernel_rfl) ?_
    refine y_k (.int .i64 (IntKind.i64.wrap (i2_2 + 1)) : Value) w_5 rfl rfl rfl (by kernel_rfl) ?_
    refine y_nil ?_
    refine y_then (hN5 (IntKind.i64.wrap (i2_2 + 1)) _ _ h ?_)
    dsimp only
    refine upd_id ?_ rfl
    refine upd_id ?_ rfl
    rfl
  · replace h := h.2 (of_decide_eq_false hb22)
    refine y_exit ?_
    repeat (first | refine e_then_x ?_ | refine e_block_y rfl ?_)
    refine e_block_x ?_
    refine y_then (hK1 _ _ ?_)
    refine y_seq fun K12 hK12 => ?_
    refine y_region ?_
    refine y_k (.int .i64 0 : Value) w_3 rfl rfl rfl (by kernel_rfl) ?_
    refine y_nil ?_
    refine y_then (hK12 _ _ ?_)
    refine y_block ?_
    refine y_loop (S := Sl × Int) (fun s j => match s with | (l0_6, i3_7) => upd (upd (j) 0 (.slice l0_6.a l0_6.n l0_6.c : Value)) 3 (.int .i64 i3_7 : Value)) (l0_1, 0) ?_ h ?_
    · dsimp only
      refine upd_id ?_ rfl
      refine upd_id ?_ rfl
      rfl
    rintro KN15 next14 hN15 ⟨l0_6, i3_7⟩ j w_8 h
    unfold F29_l2 at h
    refine y_seq fun K16 hK16 => ?_
    refine y_seq fun K17 hK17 => ?_
    refine y_region ?_
    refine y_k (.int .i64 i3_7 : Value) w_8 rfl rfl rfl (by kernel_rfl) ?_
    refine y_k (.bool (decide (i3_7 < 9)) : Value) w_8 rfl rfl rfl (by kernel_rfl) ?_
    refine y_nil ?_
    refine y_then (hK17 _ _ ?_)
    refine y_cond (decide (i3_7 < 9)) rfl rfl (fun hb21 => ?_) (fun hb21 => ?_)
    · replace h := h.1 (of_decide_eq_true hb21)
      refine y_skip ?_
      refine y_then (hK16 _ _ ?_)
      refine y_seq fun K18 hK18 => ?_
      refine y_block ?_
      refine y_region ?_
      refine y_k (.slice l0_6.a l0_6.n l0_6.c : Value) w_8 rfl rfl rfl (by kernel_rfl) ?_
      refine y_k (.slice (some ⟨w_8.heap.size, 0, none⟩) 1 1 : Value) (w_8.alloc (.cells #[.int .u32 7] 23)) rfl rfl rfl (by kernel_rfl) ?_
      replace h := h _ rfl
      generalize w_8.alloc (.cells #[.int .u32 7] 23) = w_9 at h ⊢
      obtain ⟨t19_10, w_11, hx20, h⟩ := h
      refine y_v (s := Builtin.append_ #[22, 22] 22 #[.slice l0_6.a l0_6.n l0_6.c, .slice (some ⟨w_8.heap.size, 0, none⟩) 1 1]) rfl rfl rfl (by kernel_rfl) hx20 ?_
      refine y_k (.slice t19_10.a t19_10.n t19_10.c : Value) w_11 rfl rfl rfl (by kernel_rfl) ?_
      refine y_nil ?_
      refine e_block_n ?_
      refine y_then (hK18 _ _ ?_)
      refine y_region ?_
      refine y_k (.int .i64 i3_7 : Value) w_11 rfl rfl rfl (by kernel_rfl) ?_
      refine y_k (.int .i64 (IntKind.i64.wrap (i3_7 + 1)) : Value) w_11 rfl rfl rfl (by kernel_rfl) ?_
      refine y_k (.int .i64 (IntKind.i64.wrap (i3_7 + 1)) : Value) w_11 rfl rfl rfl (by kernel_rfl) ?_
      refine y_nil ?_
      refine y_then (hN15 (t19_10, IntKind.i64.wrap (i3_7 + 1)) _ _ h ?_)
      dsimp only
      refine upd_id ?_ rfl
      refine upd_id ?_ rfl
      rfl
    · replace h := h.2 (of_decide_eq_false hb21)
      refine y_exit ?_
      repeat (first | refine e_then_x ?_ | refine e_block_y rfl ?_)
      refine e_block_x ?_
      exact (hQ0 _ _ _ (res0 rfl) ⟨rfl, h⟩).2

def F13_j2 (K : Bool → World → Prop) (t0_48 : Bool) (w_49 : World) : Prop :=
  K t0_48 w_49
def F13_j1 (K : Bool → World → Prop) (t23_6 : Bool) (t28_11 : Bool) (t33_16 : Bool) (t35_18 : Bool) (t38_21 : Bool) (t43_24 : Bool) (t48_27 : Sl) (t48_28 : Bool) (t53_32 : Int) (t58_35 : Sl) (ok16_45 : Bool) (w_46 : World) : Prop :=
  ((ok16_45 = true →
  ((t23_6 = true →
  ((t28_11 = true →
  ((t33_16 = true →
  ((t35_18 = true →
  ((t38_21 = true →
  ((t43_24 = false →
  ((t48_28 = true →
  ∃ (t97_47 : ByteArray), (convert 33 9 (.slice t48_27.a t48_27.n t48_27.c : Value)).run Try.prog w_46 = .ok (.string t97_47 : Value) w_46 ∧
  ((t97_47.toList = (((ByteArray.mk #[3, 1, 1, 251, 255, 255, 255, 15])).toList) →
  ((t53_32 = 3 →
  F13_j2 K (((((t58_35.n : Int))) == 0)) w_46) ∧
  (¬ t53_32 = 3 →
  F13_j2 K false w_46))) ∧
  (¬ t97_47.toList = (((ByteArray.mk #[3, 1, 1, 251, 255, 255, 255, 15])).toList) →
  F13_j2 K false w_46))) ∧
  (t48_28 = false →
  F13_j2 K false w_46))) ∧
  (t43_24 = true →
  F13_j2 K false w_46))) ∧
  (t38_21 = false →
  F13_j2 K false w_46))) ∧
  (t35_18 = false →
  F13_j2 K false w_46))) ∧
  (t33_16 = false →
  F13_j2 K false w_46))) ∧
  (t28_11 = false →
  F13_j2 K false w_46))) ∧
  (t23_6 = false →
  F13_j2 K false w_46))) ∧
  (ok16_45 = false →
  F13_j2 K false w_46))
/-- turnkey/turnkeylaw12.shown -/
def F13  (K : Bool → World → Prop) (w : World) : Prop :=
  ∀ (w_1 : World), w_1 = w.alloc (.cells #[.int .u32 1, .int .u32 3, .int .u32 5] 23) →
  ∀ (w_2 : World), w_2 = w_1.alloc (.cells #[.int .u32 3, .int .u32 4, .int .u32 5] 23) →
  Calls Try.prog 16 #[.slice (some ⟨w.heap.size, 0, none⟩) 3 3, .slice (some ⟨w_1.heap.size, 0, none⟩) 3 3] w_2 fun e w_4 => ∃ (t21_3 : Sl), e = .returned (.slice t21_3.a t21_3.n t21_3.c : Value) ∧
  ∀ (w_5 : World), w_5 = w_4.alloc (.cells #[.int .u32 3, .int .u32 5] 23) →
  Calls Try.prog 23 #[.slice t21_3.a t21_3.n t21_3.c, .slice (some ⟨w_4.heap.size, 0, none⟩) 2 2] w_5 fun e w_7 => ∃ (t23_6 : Bool), e = .returned (.bool t23_6 : Value) ∧
  Calls Try.prog 17 #[.slice (some ⟨w.heap.size, 0, none⟩) 3 3, .slice (some ⟨w_1.heap.size, 0, none⟩) 3 3] w_7 fun e w_9 => ∃ (t26_8 : Sl), e = .returned (.slice t26_8.a t26_8.n t26_8.c : Value) ∧
  ∀ (w_10 : World), w_10 = w_9.alloc (.cells #[.int .u32 1, .int .u32 3, .int .u32 4, .int .u32 5] 23) →
  Calls Try.prog 23 #[.slice t26_8.a t26_8.n t26_8.c, .slice (some ⟨w_9.heap.size, 0, none⟩) 4 4] w_10 fun e w_12 => ∃ (t28_11 : Bool), e = .returned (.bool t28_11 : Value) ∧
  Calls Try.prog 18 #[.slice (some ⟨w.heap.size, 0, none⟩) 3 3, .slice (some ⟨w_1.heap.size, 0, none⟩) 3 3] w_12 fun e w_14 => ∃ (t31_13 : Sl), e = .returned (.slice t31_13.a t31_13.n t31_13.c : Value) ∧
  ∀ (w_15 : World), w_15 = w_14.alloc (.cells #[.int .u32 1] 23) →
  Calls Try.prog 23 #[.slice t31_13.a t31_13.n t31_13.c, .slice (some ⟨w_14.heap.size, 0, none⟩) 1 1] w_15 fun e w_17 => ∃ (t33_16 : Bool), e = .returned (.bool t33_16 : Value) ∧
  Calls Try.prog 27 #[.slice (some ⟨w.heap.size, 0, none⟩) 3 3, .int .u32 3] w_17 fun e w_19 => ∃ (t35_18 : Bool), e = .returned (.bool t35_18 : Value) ∧
  Calls Try.prog 19 #[.slice (some ⟨w.heap.size, 0, none⟩) 3 3, .int .u32 4] w_19 fun e w_22 => ∃ (t38_20 : Sl), ∃ (t38_21 : Bool), e = .returned (.tuple #[.slice t38_20.a t38_20.n t38_20.c, .bool t38_21] : Value) ∧
  Calls Try.prog 20 #[.slice (some ⟨w.heap.size, 0, none⟩) 3 3, .int .u32 4] w_22 fun e w_25 => ∃ (t43_23 : Sl), ∃ (t43_24 : Bool), e = .returned (.tuple #[.slice t43_23.a t43_23.n t43_23.c, .bool t43_24] : Value) ∧
  ∀ (w_26 : World), w_26 = w_25.alloc (.cells #[.int .u32 1, .int .u32 3, .int .u32 4294967295] 23) →
  Calls Try.prog 31 #[.slice none 0 0, .slice (some ⟨w_25.heap.size, 0, none⟩) 3 3] w_26 fun e w_29 => ∃ (t48_27 : Sl), ∃ (t48_28 : Bool), e = .returned (.tuple #[.slice t48_27.a t48_27.n t48_27.c, .bool t48_28] : Value) ∧
  ∀ (w_30 : World), w_30 = w_29.alloc (.cells #[.int .u8 2, .int .u8 1, .int .u8 0, .int .u8 9] 5) →
  Calls Try.prog 33 #[.slice (some ⟨w_29.heap.size, 0, none⟩) 4 4] w_30 fun e w_33 => ∃ (t53_31 : Sl), ∃ (t53_32 : Int), e = .returned (.tuple #[.slice t53_31.a t53_31.n t53_31.c, .int .i64 t53_32] : Value) ∧
  ∀ (w_34 : World), w_34 = w_33.alloc (.cells #[.int .u32 1, .int .u32 1] 23) →
  Calls Try.prog 16 #[.slice (some ⟨w_33.heap.size, 0, none⟩) 2 2, .slice (some ⟨w_1.heap.size, 0, none⟩) 3 3] w_34 fun e w_36 => ∃ (t58_35 : Sl), e = .returned (.slice t58_35.a t58_35.n t58_35.c : Value) ∧
  ∀ (w_37 : World), w_37 = w_36.alloc (.cells #[.int .u32 1, .int .u32 3, .int .u32 4, .int .u32 5] 23) →
  Calls Try.prog 23 #[.slice t38_20.a t38_20.n t38_20.c, .slice (some ⟨w_36.heap.size, 0, none⟩) 4 4] w_37 fun e w_39 => ∃ (t61_38 : Bool), e = .returned (.bool t61_38 : Value) ∧
  ((t61_38 = true →
  Calls Try.prog 23 #[.slice t43_23.a t43_23.n t43_23.c, .slice (some ⟨w.heap.size, 0, none⟩) 3 3] w_39 fun e w_41 => ∃ (t65_40 : Bool), e = .returned (.bool t65_40 : Value) ∧
  ((t65_40 = true →
  ∀ (w_42 : World), w_42 = w_41.alloc (.cells #[.int .u32 1, .int .u32 2] 23) →
  Calls Try.prog 23 #[.slice t53_31.a t53_31.n t53_31.c, .slice (some ⟨w_41.heap.size, 0, none⟩) 2 2] w_42 fun e w_44 => ∃ (t70_43 : Bool), e = .returned (.bool t70_43 : Value) ∧
  F13_j1 K t23_6 t28_11 t33_16 t35_18 t38_21 t43_24 t48_27 t48_28 t53_32 t58_35 t70_43 w_44) ∧
  (t65_40 = false →
  F13_j1 K t23_6 t28_11 t33_16 t35_18 t38_21 t43_24 t48_27 t48_28 t53_32 t58_35 false w_41))) ∧
  (t61_38 = false →
  F13_j1 K t23_6 t28_11 t33_16 t35_18 t38_21 t43_24 t48_27 t48_28 t53_32 t58_35 false w_39))
set_option maxHeartbeats 4000000 in
set_option maxRecDepth 20000 in
theorem F13_sound  (K : Bool → World → Prop) (w : World) (h : F13  K w) :
    Calls Try.prog 13 #[] w (fun e w1 => ∃ (r0 : Bool), e = .returned (.bool r0 : Value) ∧ K r0 w1) := by
  unfold F13 at h
  refine y_enter (n := 109) (args := []) Try.func13 rfl rfl rfl fun Q0 hQ0 => ?_
  refine y_seq fun K1 hK1 => ?_
  refine y_region ?_
  refine y_k (.bool false : Value) w rfl rfl rfl (by kernel_rfl) ?_
  refine y_nil ?_
  refine y_then (hK1 _ _ ?_)
  refine y_seq fun K2 hK2 => ?_
  refine y_region ?_
  refine y_k (.slice (some ⟨w.heap.size, 0, none⟩) 3 3 : Value) (w.alloc (.cells #[.int .u32 1, .int .u32 3, .int .u32 5] 23)) rfl rfl rfl (by kernel_rfl) ?_
  replace h := h _ rfl
  generalize w.alloc (.cells #[.int .u32 1, .int .u32 3, .int .u32 5] 23) = w_1 at h ⊢
  refine y_k (.slice (some ⟨w.heap.size, 0, none⟩) 3 3 : Value) w_1 rfl rfl rfl (by kernel_rfl) ?_
  refine y_nil ?_
  refine y_then (hK2 _ _ ?_)
  refine y_seq fun K3 hK3 => ?_
  refine y_region ?_
  refine y_k (.slice (some ⟨w_1.heap.size, 0, none⟩) 3 3 : Value) (w_1.alloc (.cells #[.int .u32 3, .int .u32 4, .int .u32 5] 23)) rfl rfl rfl (by kernel_rfl) ?_
  replace h := h _ rfl
  generalize w_1.alloc (.cells #[.int .u32 3, .int .u32 4, .int .u32 5] 23) = w_2 at h ⊢
  refine y_k (.slice (some ⟨w_1.heap.size, 0, none⟩) 3 3 : Value) w_2 rfl rfl rfl (by kernel_rfl) ?_
  refine y_nil ?_
  refine y_then (hK3 _ _ ?_)
  refine y_seq fun K4 hK4 => ?_
  refine y_region ?_
  refine y_k (.slice (some ⟨w.heap.size, 0, none⟩) 3 3 : Value) w_2 rfl rfl rfl (by kernel_rfl) ?_
  refine y_k (.slice (some ⟨w_1.heap.size, 0, none⟩) 3 3 : Value) w_2 rfl rfl rfl (by kernel_rfl) ?_
  refine y_call rfl rfl rfl (by kernel_rfl) (h.mono ?_)
  rintro _ w_4 ⟨t21_3, rfl, h⟩
  refine ⟨_, rfl, ?_⟩
  refine y_k (.slice (some ⟨w_4.heap.size, 0, none⟩) 2 2 : Value) (w_4.alloc (.cells #[.int .u32 3, .int .u32 5] 23)) rfl rfl rfl (by kernel_rfl) ?_
  replace h := h _ rfl
  generalize w_4.alloc (.cells #[.int .u32 3, .int .u32 5] 23) = w_5 at h ⊢
  refine y_call rfl rfl rfl (by kernel_rfl) (h.mono ?_)
  rintro _ w_7 ⟨t23_6, rfl, h⟩
  refine ⟨_, rfl, ?_⟩
  refine y_k (.bool t23_6 : Value) w_7 rfl rfl rfl (by kernel_rfl) ?_
  refine y_nil ?_
  refine y_then (hK4 _ _ ?_)
  refine y_seq fun K5 hK5 => ?_
  refine y_region ?_
  refine y_k (.slice (some ⟨w.heap.size, 0, none⟩) 3 3 : Value) w_7 rfl rfl rfl (by kernel_rfl) ?_
  refine y_k (.slice (some ⟨w_1.heap.size, 0, none⟩) 3 3 : Value) w_7 rfl rfl rfl (by kernel_rfl) ?_
  refine y_call rfl rfl rfl (by kernel_rfl) (h.mono ?_)
  rintro _ w_9 ⟨t26_8, rfl, h⟩
  refine ⟨_, rfl, ?_⟩
  refine y_k (.slice (some ⟨w_9.heap.size, 0, none⟩) 4 4 : Value) (w_9.alloc (.cells #[.int .u32 1, .int .u32 3, .int .u32 4, .int .u32 5] 23)) rfl rfl rfl (by kernel_rfl) ?_
  replace h := h _ rfl
  generalize w_9.alloc (.cells #[.int .u32 1, .int .u32 3, .int .u32 4, .int .u32 5] 23) = w_10 at h ⊢
  refine y_call rfl rfl rfl (by kernel_rfl) (h.mono ?_)
  rintro _ w_12 ⟨t28_11, rfl, h⟩
  refine ⟨_, rfl, ?_⟩
  refine y_k (.bool t28_11 : Value) w_12 rfl rfl rfl (by kernel_rfl) ?_
  refine y_nil ?_
  refine y_then (hK5 _ _ ?_)
  refine y_seq fun K6 hK6 => ?_
  refine y_region ?_
  refine y_k (.slice (some ⟨w.heap.size, 0, none⟩) 3 3 : Value) w_12 rfl rfl rfl (by kernel_rfl) ?_
  refine y_k (.slice (some ⟨w_1.heap.size, 0, none⟩) 3 3 : Value) w_12 rfl rfl rfl (by kernel_rfl) ?_
  refine y_call rfl rfl rfl (by kernel_rfl) (h.mono ?_)
  rintro _ w_14 ⟨t31_13, rfl, h⟩
  refine ⟨_, rfl, ?_⟩
  refine y_k (.slice (some ⟨w_14.heap.size, 0, none⟩) 1 1 : Value) (w_14.alloc (.cells #[.int .u32 1] 23)) rfl rfl rfl (by kernel_rfl) ?_
  replace h := h _ rfl
  generalize w_14.alloc (.cells #[.int .u32 1] 23) = w_15 at h ⊢
  refine y_call rfl rfl rfl (by kernel_rfl) (h.mono ?_)
  rintro _ w_17 ⟨t33_16, rfl, h⟩
  refine ⟨_, rfl, ?_⟩
  refine y_k (.bool t33_16 : Value) w_17 rfl rfl rfl (by kernel_rfl) ?_
  refine y_nil ?_
  refine y_then (hK6 _ _ ?_)
  refine y_seq fun K7 hK7 => ?_
  refine y_region ?_
  refine y_k (.slice (some ⟨w.heap.size, 0, none⟩) 3 3 : Value) w_17 rfl rfl rfl (by kernel_rfl) ?_
  refine y_call rfl rfl rfl (by kernel_rfl) (h.mono ?_)
  rintro _ w_19 ⟨t35_18, rfl, h⟩
  refine ⟨_, rfl, ?_⟩
  refine y_k (.bool t35_18 : Value) w_19 rfl rfl rfl (by kernel_rfl) ?_
  refine y_nil ?_
  refine y_then (hK7 _ _ ?_)
  refine y_seq fun K8 hK8 => ?_
  refine y_region ?_
  refine y_k (.slice (some ⟨w.heap.size, 0, none⟩) 3 3 : Value) w_19 rfl rfl rfl (by kernel_rfl) ?_
  refine y_call rfl rfl rfl (by kernel_rfl) (h.mono ?_)
  rintro _ w_22 ⟨t38_20, t38_21, rfl, h⟩
  refine ⟨_, rfl, ?_⟩
  refine y_k (.tuple #[.slice t38_20.a t38_20.n t38_20.c, .bool t38_21] : Value) w_22 rfl rfl rfl (by kernel_rfl) ?_
  refine y_k (.slice t38_20.a t38_20.n t38_20.c : Value) w_22 rfl rfl rfl (by kernel_rfl) ?_
  refine y_k (.bool t38_21 : Value) w_22 rfl rfl rfl (by kernel_rfl) ?_
  refine y_k (.slice t38_20.a t38_20.n t38_20.c : Value) w_22 rfl rfl rfl (by kernel_rfl) ?_
  refine y_k (.bool t38_21 : Value) w_22 rfl rfl rfl (by kernel_rfl) ?_
  refine y_nil ?_
  refine y_then (hK8 _ _ ?_)
  refine y_seq fun K9 hK9 => ?_
  refine y_region ?_
  refine y_k (.slice (some ⟨w.heap.size, 0, none⟩) 3 3 : Value) w_22 rfl rfl rfl (by kernel_rfl) ?_
  refine y_call rfl rfl rfl (by kernel_rfl) (h.mono ?_)
  rintro _ w_25 ⟨t43_23, t43_24, rfl, h⟩
  refine ⟨_, rfl, ?_⟩
  refine y_k (.tuple #[.slice t43_23.a t43_23.n t43_23.c, .bool t43_24] : Value) w_25 rfl rfl rfl (by kernel_rfl) ?_
  refine y_k (.slice t43_23.a t43_23.n t43_23.c : Value) w_25 rfl rfl rfl (by kernel_rfl) ?_
  refine y_k (.bool t43_24 : Value) w_25 rfl rfl rfl (by kernel_rfl) ?_
  refine y_k (.slice t43_23.a t43_23.n t43_23.c : Value) w_25 rfl rfl rfl (by kernel_rfl) ?_
  refine y_k (.bool t43_24 : Value) w_25 rfl rfl rfl (by kernel_rfl) ?_
  refine y_nil ?_
  refine y_then (hK9 _ _ ?_)
  refine y_seq fun K10 hK10 => ?_
  refine y_region ?_
  refine y_k (.slice (some ⟨w_25.heap.size, 0, none⟩) 3 3 : Value) (w_25.alloc (.cells #[.int .u32 1, .int .u32 3, .int .u32 4294967295] 23)) rfl rfl rfl (by kernel_rfl) ?_
  replace h := h _ rfl
  generalize w_25.alloc (.cells #[.int .u32 1, .int .u32 3, .int .u32 4294967295] 23) = w_26 at h ⊢
  refine y_call rfl rfl rfl (by kernel_rfl) (h.mono ?_)
  rintro _ w_29 ⟨t48_27, t48_28, rfl, h⟩
  refine ⟨_, rfl, ?_⟩
  refine y_k (.tuple #[.slice t48_27.a t48_27.n t48_27.c, .bool t48_28] : Value) w_29 rfl rfl rfl (by kernel_rfl) ?_
  refine y_k (.slice t48_27.a t48_27.n t48_27.c : Value) w_29 rfl rfl rfl (by kernel_rfl) ?_
  refine y_k (.bool t48_28 : Value) w_29 rfl rfl rfl (by kernel_rfl) ?_
  refine y_k (.slice t48_27.a t48_27.n t48_27.c : Value) w_29 rfl rfl rfl (by kernel_rfl) ?_
  refine y_k (.bool t48_28 : Value) w_29 rfl rfl rfl (by kernel_rfl) ?_
  refine y_nil ?_
  refine y_then (hK10 _ _ ?_)
  refine y_seq fun K11 hK11 => ?_
  refine y_region ?_
  refine y_k (.slice (some ⟨w_29.heap.size, 0, none⟩) 4 4 : Value) (w_29.alloc (.cells #[.int .u8 2, .int .u8 1, .int .u8 0, .int .u8 9] 5)) rfl rfl rfl (by kernel_rfl) ?_
  replace h := h _ rfl
  generalize w_29.alloc (.cells #[.int .u8 2, .int .u8 1, .int .u8 0, .int .u8 9] 5) = w_30 at h ⊢
  refine y_call rfl rfl rfl (by kernel_rfl) (h.mono ?_)
  rintro _ w_33 ⟨t53_31, t53_32, rfl, h⟩
  refine ⟨_, rfl, ?_⟩
  refine y_k (.tuple #[.slice t53_31.a t53_31.n t53_31.c, .int .i64 t53_32] : Value) w_33 rfl rfl rfl (by kernel_rfl) ?_
  refine y_k (.slice t53_31.a t53_31.n t53_31.c : Value) w_33 rfl rfl rfl (by kernel_rfl) ?_
  refine y_k (.int .i64 t53_32 : Value) w_33 rfl rfl rfl (by kernel_rfl) ?_
  refine y_k (.slice t53_31.a t53_31.n t53_31.c : Value) w_33 rfl rfl rfl (by kernel_rfl) ?_
  refine y_k (.int .i64 t53_32 : Value) w_33 rfl rfl rfl (by kernel_rfl) ?_
  refine y_nil ?_
  refine y_then (hK11 _ _ ?_)
  refine y_seq fun K12 hK12 => ?_
  refine y_region ?_
  refine y_k (.slice (some ⟨w_33.heap.size, 0, none⟩) 2 2 : Value) (w_33.alloc (.cells #[.int .u32 1, .int .u32 1] 23)) rfl rfl rfl (by kernel_rfl) ?_
  replace h := h _ rfl
  generalize w_33.alloc (.cells #[.int .u32 1, .int .u32 1] 23) = w_34 at h ⊢
  refine y_k (.slice (some ⟨w_1.heap.size, 0, none⟩) 3 3 : Value) w_34 rfl rfl rfl (by kernel_rfl) ?_
  refine y_call rfl rfl rfl (by kernel_rfl) (h.mono ?_)
  rintro _ w_36 ⟨t58_35, rfl, h⟩
  refine ⟨_, rfl, ?_⟩
  refine y_k (.slice t58_35.a t58_35.n t58_35.c : Value) w_36 rfl rfl rfl (by kernel_rfl) ?_
  refine y_nil ?_
  refine y_then (hK12 _ _ ?_)
  refine y_seq fun K13 hK13 => ?_
  have hjK13 : ∀ (f : Fr) (ok16_45 : Bool) (w_46 : World), f 3 = (.bool t23_6 : Value) → f 4 = (.bool t28_11 : Value) → f 5 = (.bool t33_16 : Value) → f 6 = (.bool t35_18 : Value) → f 8 = (.bool t38_21 : Value) → f 10 = (.bool t43_24 : Value) → f 11 = (.slice t48_27.a t48_27.n t48_27.c : Value) → f 12 = (.bool t48_28 : Value) → f 14 = (.int .i64 t53_32 : Value) → f 15 = (.slice t58_35.a t58_35.n t58_35.c : Value) → f 16 = (.bool ok16_45 : Value) → F13_j1 K t23_6 t28_11 t33_16 t35_18 t38_21 t43_24 t48_27 t48_28 t53_32 t58_35 ok16_45 w_46 → WK K13 109 f w_46 := by
    intro f ok16_45 w_46 e3 e4 e5 e6 e8 e10 e11 e12 e14 e15 e16 h
    refine y_atf (upd_id (upd_id (upd_id (upd_id (upd_id (upd_id (upd_id (upd_id (upd_id (upd_id (upd_id rfl e3) e4) e5) e6) e8) e10) e11) e12) e14) e15) e16) ?_
    clear e3 e4 e5 e6 e8 e10 e11 e12 e14 e15 e16
    unfold F13_j1 at h
    refine hK13 _ _ ?_
    refine y_seq fun K16 hK16 => ?_
    have hjK16 : ∀ (f : Fr) (t0_48 : Bool) (w_49 : World), f 0 = (.bool t0_48 : Value) → F13_j2 K t0_48 w_49 → WK K16 109 f w_49 := by
      intro f t0_48 w_49 e0 h
      refine y_atf (upd_id rfl e0) ?_
      clear e0
      unfold F13_j2 at h
      refine hK16 _ _ ?_
      refine y_ret ?_
      repeat (first | refine e_then_r ?_ | refine e_block_r ?_)
      exact (hQ0 _ _ _ (res1 (v := (.bool t0_48 : Value)) rfl rfl rfl) ⟨_, rfl, h⟩).1
    refine y_region ?_
    refine y_k (.bool ok16_45 : Value) w_46 rfl rfl rfl (by kernel_rfl) ?_
    refine y_k (.bool ok16_45 : Value) w_46 rfl rfl rfl (by kernel_rfl) ?_
    refine y_fork (ok16_45) (fun hb17 => ?_) (fun hb17 => ?_)
    · replace h := h.1 (hb17)
      refine y_frame (upd_id (i := 73) (v := .bool true) rfl (congrArg Value.bool hb17)) ?_
      refine y_gyes rfl rfl rfl ?_
      refine y_k (.bool t23_6 : Value) w_46 rfl rfl rfl (by kernel_rfl) ?_
      refine y_k (.bool t23_6 : Value) w_46 rfl rfl rfl (by kernel_rfl) ?_
      refine y_k (.bool t23_6 : Value) w_46 rfl rfl rfl (by kernel_rfl) ?_
      refine y_fork (t23_6) (fun hb18 => ?_) (fun hb18 => ?_)
      · replace h := h.1 (hb18)
        refine y_frame (upd_id (i := 76) (v := .bool true) rfl (congrArg Value.bool hb18)) ?_
        refine y_gyes rfl rfl rfl ?_
        refine y_k (.bool t28_11 : Value) w_46 rfl rfl rfl (by kernel_rfl) ?_
        refine y_k (.bool t28_11 : Value) w_46 rfl rfl rfl (by kernel_rfl) ?_
        refine y_k (.bool t28_11 : Value) w_46 rfl rfl rfl (by kernel_rfl) ?_
        refine y_fork (t28_11) (fun hb19 => ?_) (fun hb19 => ?_)
        · replace h := h.1 (hb19)
          refine y_frame (upd_id (i := 79) (v := .bool true) rfl (congrArg Value.bool hb19)) ?_
          refine y_gyes rfl rfl rfl ?_
          refine y_k (.bool t33_16 : Value) w_46 rfl rfl rfl (by kernel_rfl) ?_
          refine y_k (.bool t33_16 : Value) w_46 rfl rfl rfl (by kernel_rfl) ?_
          refine y_k (.bool t33_16 : Value) w_46 rfl rfl rfl (by kernel_rfl) ?_
          refine y_fork (t33_16) (fun hb20 => ?_) (fun hb20 => ?_)
          · replace h := h.1 (hb20)
            refine y_frame (upd_id (i := 82) (v := .bool true) rfl (congrArg Value.bool hb20)) ?_
            refine y_gyes rfl rfl rfl ?_
            refine y_k (.bool t35_18 : Value) w_46 rfl rfl rfl (by kernel_rfl) ?_
            refine y_k (.bool t35_18 : Value) w_46 rfl rfl rfl (by kernel_rfl) ?_
            refine y_k (.bool t35_18 : Value) w_46 rfl rfl rfl (by kernel_rfl) ?_
            refine y_fork (t35_18) (fun hb21 => ?_) (fun hb21 => ?_)
            · replace h := h.1 (hb21)
              refine y_frame (upd_id (i := 85) (v := .bool true) rfl (congrArg Value.bool hb21)) ?_
              refine y_gyes rfl rfl rfl ?_
              refine y_k (.bool t38_21 : Value) w_46 rfl rfl rfl (by kernel_rfl) ?_
              refine y_k (.bool t38_21 : Value) w_46 rfl rfl rfl (by kernel_rfl) ?_
              refine y_k (.bool t38_21 : Value) w_46 rfl rfl rfl (by kernel_rfl) ?_
              refine y_fork (t38_21) (fun hb22 => ?_) (fun hb22 => ?_)
              · replace h := h.1 (hb22)
                refine y_frame (upd_id (i := 88) (v := .bool true) rfl (congrArg Value.bool hb22)) ?_
                refine y_gyes rfl rfl rfl ?_
                refine y_k (.bool t43_24 : Value) w_46 rfl rfl rfl (by kernel_rfl) ?_
                refine y_gyes rfl rfl rfl ?_
                refine y_k (.bool (!(t43_24)) : Value) w_46 rfl rfl rfl (by kernel_rfl) ?_
                refine y_k (.bool (!(t43_24)) : Value) w_46 rfl rfl rfl (by kernel_rfl) ?_
                refine y_k (.bool (!(t43_24)) : Value) w_46 rfl rfl rfl (by kernel_rfl) ?_
                refine y_fork (!(t43_24)) (fun hb23 => ?_) (fun hb23 => ?_)
                · replace h := h.1 ((not_true_of hb23))
                  refine y_frame (upd_id (i := 92) (v := .bool true) rfl (congrArg Value.bool hb23)) ?_
                  refine y_gyes rfl rfl rfl ?_
                  refine y_k (.bool t48_28 : Value) w_46 rfl rfl rfl (by kernel_rfl) ?_
                  refine y_k (.bool t48_28 : Value) w_46 rfl rfl rfl (by kernel_rfl) ?_
                  refine y_k (.bool t48_28 : Value) w_46 rfl rfl rfl (by kernel_rfl) ?_
                  refine y_fork (t48_28) (fun hb24 => ?_) (fun hb24 => ?_)
                  · replace h := h.1 (hb24)
                    refine y_frame (upd_id (i := 95) (v := .bool true) rfl (congrArg Value.bool hb24)) ?_
                    refine y_gyes rfl rfl rfl ?_
                    refine y_k (.slice t48_27.a t48_27.n t48_27.c : Value) w_46 rfl rfl rfl (by kernel_rfl) ?_
                    refine y_gyes rfl rfl rfl ?_
                    obtain ⟨t97_47, hx25, h⟩ := h
                    refine y_v (s := convert 33 9 (.slice t48_27.a t48_27.n t48_27.c : Value)) rfl rfl rfl (by kernel_rfl) (hx25) ?_
                    refine y_gyes rfl rfl rfl ?_
                    refine y_k (.bool ((t97_47.toList == (((ByteArray.mk #[3, 1, 1, 251, 255, 255, 255, 15])).toList))) : Value) w_46 rfl rfl rfl (by kernel_rfl) ?_
                    refine y_k (.bool ((t97_47.toList == (((ByteArray.mk #[3, 1, 1, 251, 255, 255, 255, 15])).toList))) : Value) w_46 rfl rfl rfl (by kernel_rfl) ?_
                    refine y_k (.bool ((t97_47.toList == (((ByteArray.mk #[3, 1, 1, 251, 255, 255, 255, 15])).toList))) : Value) w_46 rfl rfl rfl (by kernel_rfl) ?_
                    refine y_fork ((t97_47.toList == (((ByteArray.mk #[3, 1, 1, 251, 255, 255, 255, 15])).toList))) (fun hb26 => ?_) (fun hb26 => ?_)
                    · replace h := h.1 (eq_of_beq hb26)
                      refine y_frame (upd_id (i := 100) (v := .bool true) rfl (congrArg Value.bool hb26)) ?_
                      refine y_gyes rfl rfl rfl ?_
                      refine y_k (.int .i64 t53_32 : Value) w_46 rfl rfl rfl (by kernel_rfl) ?_
                      refine y_gyes rfl rfl rfl ?_
                      refine y_k (.bool ((t53_32 == 3)) : Value) w_46 rfl rfl rfl (by kernel_rfl) ?_
                      refine y_k (.bool ((t53_32 == 3)) : Value) w_46 rfl rfl rfl (by kernel_rfl) ?_
                      refine y_k (.bool ((t53_32 == 3)) : Value) w_46 rfl rfl rfl (by kernel_rfl) ?_
                      refine y_fork ((t53_32 == 3)) (fun hb27 => ?_) (fun hb27 => ?_)
                      · replace h := h.1 (eq_of_beq hb27)
                        refine y_frame (upd_id (i := 104) (v := .bool true) rfl (congrArg Value.bool hb27)) ?_
                        refine y_gyes rfl rfl rfl ?_
                        refine y_k (.slice t58_35.a t58_35.n t58_35.c : Value) w_46 rfl rfl rfl (by kernel_rfl) ?_
                        refine y_gyes rfl rfl rfl ?_
                        refine y_k (.int .i64 ((t58_35.n : Int)) : Value) w_46 rfl rfl rfl (by kernel_rfl) ?_
                        refine y_gyes rfl rfl rfl ?_
                        refine y_k (.bool (((((t58_35.n : Int))) == 0)) : Value) w_46 rfl rfl rfl (by kernel_rfl) ?_
                        refine y_k (.bool (((((t58_35.n : Int))) == 0)) : Value) w_46 rfl rfl rfl (by kernel_rfl) ?_
                        refine y_k (.bool (((((t58_35.n : Int))) == 0)) : Value) w_46 rfl rfl rfl (by kernel_rfl) ?_
                        refine y_nil ?_
                        exact y_then (hjK16 _ (((((t58_35.n : Int))) == 0)) w_46 rfl h)
                      · replace h := h.2 (beq_eq_false_iff_ne.mp hb27)
                        refine y_frame (upd_id (i := 104) (v := .bool false) rfl (congrArg Value.bool hb27)) ?_
                        refine y_gno rfl rfl rfl rfl ?_
                        refine y_gno rfl rfl rfl rfl ?_
                        refine y_gno rfl rfl rfl rfl ?_
                        refine y_k (.bool false : Value) w_46 rfl rfl rfl (by kernel_rfl) ?_
                        refine y_k (.bool false : Value) w_46 rfl rfl rfl (by kernel_rfl) ?_
                        refine y_nil ?_
                        exact y_then (hjK16 _ false w_46 rfl h)
                    · replace h := h.2 (beq_eq_false_iff_ne.mp hb26)
                      refine y_frame (upd_id (i := 100) (v := .bool false) rfl (congrArg Value.bool hb26)) ?_
                      refine y_gno rfl rfl rfl rfl ?_
                      refine y_gno rfl rfl rfl rfl ?_
                      refine y_k (.bool false : Value) w_46 rfl rfl rfl (by kernel_rfl) ?_
                      refine y_k (.bool false : Value) w_46 rfl rfl rfl (by kernel_rfl) ?_
                      refine y_gno rfl rfl rfl rfl ?_
                      refine y_gno rfl rfl rfl rfl ?_
                      refine y_gno rfl rfl rfl rfl ?_
                      refine y_k (.bool false : Value) w_46 rfl rfl rfl (by kernel_rfl) ?_
                      refine y_k (.bool false : Value) w_46 rfl rfl rfl (by kernel_rfl) ?_
                      refine y_nil ?_
                      exact y_then (hjK16 _ false w_46 rfl h)
                  · replace h := h.2 (hb24)
                    refine y_frame (upd_id (i := 95) (v := .bool false) rfl (congrArg Value.bool hb24)) ?_
                    refine y_gno rfl rfl rfl rfl ?_
                    refine y_gno rfl rfl rfl rfl ?_
                    refine y_gno rfl rfl rfl rfl ?_
                    refine y_k (.bool false : Value) w_46 rfl rfl rfl (by kernel_rfl) ?_
                    refine y_k (.bool false : Value) w_46 rfl rfl rfl (by kernel_rfl) ?_
                    refine y_gno rfl rfl rfl rfl ?_
                    refine y_gno rfl rfl rfl rfl ?_
                    refine y_k (.bool false : Value) w_46 rfl rfl rfl (by kernel_rfl) ?_
                    refine y_k (.bool false : Value) w_46 rfl rfl rfl (by kernel_rfl) ?_
                    refine y_gno rfl rfl rfl rfl ?_
                    refine y_gno rfl rfl rfl rfl ?_
                    refine y_gno rfl rfl rfl rfl ?_
                    refine y_k (.bool false : Value) w_46 rfl rfl rfl (by kernel_rfl) ?_
                    refine y_k (.bool false : Value) w_46 rfl rfl rfl (by kernel_rfl) ?_
                    refine y_nil ?_
                    exact y_then (hjK16 _ false w_46 rfl h)
                · replace h := h.2 ((not_false_of hb23))
                  refine y_frame (upd_id (i := 92) (v := .bool false) rfl (congrArg Value.bool hb23)) ?_
                  refine y_gno rfl rfl rfl rfl ?_
                  refine y_k (.bool false : Value) w_46 rfl rfl rfl (by kernel_rfl) ?_
                  refine y_k (.bool false : Value) w_46 rfl rfl rfl (by kernel_rfl) ?_
                  refine y_gno rfl rfl rfl rfl ?_
                  refine y_gno rfl rfl rfl rfl ?_
                  refine y_gno rfl rfl rfl rfl ?_
                  refine y_k (.bool false : Value) w_46 rfl rfl rfl (by kernel_rfl) ?_
                  refine y_k (.bool false : Value) w_46 rfl rfl rfl (by kernel_rfl) ?_
                  refine y_gno rfl rfl rfl rfl ?_
                  refine y_gno rfl rfl rfl rfl ?_
                  refine y_k (.bool false : Value) w_46 rfl rfl rfl (by kernel_rfl) ?_
                  refine y_k (.bool false : Value) w_46 rfl rfl rfl (by kernel_rfl) ?_
                  refine y_gno rfl rfl rfl rfl ?_
                  refine y_gno rfl rfl rfl rfl ?_
                  refine y_gno rfl rfl rfl rfl ?_
                  refine y_k (.bool false : Value) w_46 rfl rfl rfl (by kernel_rfl) ?_
                  refine y_k (.bool false : Value) w_46 rfl rfl rfl (by kernel_rfl) ?_
                  refine y_nil ?_
                  exact y_then (hjK16 _ false w_46 rfl h)
              · replace h := h.2 (hb22)
                refine y_frame (upd_id (i := 88) (v := .bool false) rfl (congrArg Value.bool hb22)) ?_
                refine y_gno rfl rfl rfl rfl ?_
                refine y_gno rfl rfl rfl rfl ?_
                refine y_k (.bool false : Value) w_46 rfl rfl rfl (by kernel_rfl) ?_
                refine y_k (.bool false : Value) w_46 rfl rfl rfl (by kernel_rfl) ?_
                refine y_gno rfl rfl rfl rfl ?_
                refine y_k (.bool false : Value) w_46 rfl rfl rfl (by kernel_rfl) ?_
                refine y_k (.bool false : Value) w_46 rfl rfl rfl (by kernel_rfl) ?_
                refine y_gno rfl rfl rfl rfl ?_
                refine y_gno rfl rfl rfl rfl ?_
                refine y_gno rfl rfl rfl rfl ?_
                refine y_k (.bool false : Value) w_46 rfl rfl rfl (by kernel_rfl) ?_
                refine y_k (.bool false : Value) w_46 rfl rfl rfl (by kernel_rfl) ?_
                refine y_gno rfl rfl rfl rfl ?_
                refine y_gno rfl rfl rfl rfl ?_
                refine y_k (.bool false : Value) w_46 rfl rfl rfl (by kernel_rfl) ?_
                refine y_k (.bool false : Value) w_46 rfl rfl rfl (by kernel_rfl) ?_
                refine y_gno rfl rfl rfl rfl ?_
                refine y_gno rfl rfl rfl rfl ?_
                refine y_gno rfl rfl rfl rfl ?_
                refine y_k (.bool false : Value) w_46 rfl rfl rfl (by kernel_rfl) ?_
                refine y_k (.bool false : Value) w_46 rfl rfl rfl (by kernel_rfl) ?_
                refine y_nil ?_
                exact y_then (hjK16 _ false w_46 rfl h)
            · replace h := h.2 (hb21)
              refine y_frame (upd_id (i := 85) (v := .bool false) rfl (congrArg Value.bool hb21)) ?_
              refine y_gno rfl rfl rfl rfl ?_
              refine y_k (.bool false : Value) w_46 rfl rfl rfl (by kernel_rfl) ?_
              refine y_k (.bool false : Value) w_46 rfl rfl rfl (by kernel_rfl) ?_
              refine y_gno rfl rfl rfl rfl ?_
              refine y_gno rfl rfl rfl rfl ?_
              refine y_k (.bool false : Value) w_46 rfl rfl rfl (by kernel_rfl) ?_
              refine y_k (.bool false : Value) w_46 rfl rfl rfl (by kernel_rfl) ?_
              refine y_gno rfl rfl rfl rfl ?_
              refine y_k (.bool false : Value) w_46 rfl rfl rfl (by kernel_rfl) ?_
              refine y_k (.bool false : Value) w_46 rfl rfl rfl (by kernel_rfl) ?_
              refine y_gno rfl rfl rfl rfl ?_
              refine y_gno rfl rfl rfl rfl ?_
              refine y_gno rfl rfl rfl rfl ?_
              refine y_k (.bool false : Value) w_46 rfl rfl rfl (by kernel_rfl) ?_
              refine y_k (.bool false : Value) w_46 rfl rfl rfl (by kernel_rfl) ?_
              refine y_gno rfl rfl rfl rfl ?_
              refine y_gno rfl rfl rfl rfl ?_
              refine y_k (.bool false : Value) w_46 rfl rfl rfl (by kernel_rfl) ?_
              refine y_k (.bool false : Value) w_46 rfl rfl rfl (by kernel_rfl) ?_
              refine y_gno rfl rfl rfl rfl ?_
              refine y_gno rfl rfl rfl rfl ?_
              refine y_gno rfl rfl rfl rfl ?_
              refine y_k (.bool false : Value) w_46 rfl rfl rfl (by kernel_rfl) ?_
              refine y_k (.bool false : Value) w_46 rfl rfl rfl (by kernel_rfl) ?_
              refine y_nil ?_
              exact y_then (hjK16 _ false w_46 rfl h)
          · replace h := h.2 (hb20)
            refine y_frame (upd_id (i := 82) (v := .bool false) rfl (congrArg Value.bool hb20)) ?_
            refine y_gno rfl rfl rfl rfl ?_
            refine y_k (.bool false : Value) w_46 rfl rfl rfl (by kernel_rfl) ?_
            refine y_k (.bool false : Value) w_46 rfl rfl rfl (by kernel_rfl) ?_
            refine y_gno rfl rfl rfl rfl ?_
            refine y_k (.bool false : Value) w_46 rfl rfl rfl (by kernel_rfl) ?_
            refine y_k (.bool false : Value) w_46 rfl rfl rfl (by kernel_rfl) ?_
            refine y_gno rfl rfl rfl rfl ?_
            refine y_gno rfl rfl rfl rfl ?_
            refine y_k (.bool false : Value) w_46 rfl rfl rfl (by kernel_rfl) ?_
            refine y_k (.bool false : Value) w_46 rfl rfl rfl (by kernel_rfl) ?_
            refine y_gno rfl rfl rfl rfl ?_
            refine y_k (.bool false : Value) w_46 rfl rfl rfl (by kernel_rfl) ?_
            refine y_k (.bool false : Value) w_46 rfl rfl rfl (by kernel_rfl) ?_
            refine y_gno rfl rfl rfl rfl ?_
            refine y_gno rfl rfl rfl rfl ?_
            refine y_gno rfl rfl rfl rfl ?_
            refine y_k (.bool false : Value) w_46 rfl rfl rfl (by kernel_rfl) ?_
            refine y_k (.bool false : Value) w_46 rfl rfl rfl (by kernel_rfl) ?_
            refine y_gno rfl rfl rfl rfl ?_
            refine y_gno rfl rfl rfl rfl ?_
            refine y_k (.bool false : Value) w_46 rfl rfl rfl (by kernel_rfl) ?_
            refine y_k (.bool false : Value) w_46 rfl rfl rfl (by kernel_rfl) ?_
            refine y_gno rfl rfl rfl rfl ?_
            refine y_gno rfl rfl rfl rfl ?_
            refine y_gno rfl rfl rfl rfl ?_
            refine y_k (.bool false : Value) w_46 rfl rfl rfl (by kernel_rfl) ?_
            refine y_k (.bool false : Value) w_46 rfl rfl rfl (by kernel_rfl) ?_
            refine y_nil ?_
            exact y_then (hjK16 _ false w_46 rfl h)
        · replace h := h.2 (hb19)
          refine y_frame (upd_id (i := 79) (v := .bool false) rfl (congrArg Value.bool hb19)) ?_
          refine y_gno rfl rfl rfl rfl ?_
          refine y_k (.bool false : Value) w_46 rfl rfl rfl (by kernel_rfl) ?_
          refine y_k (.bool false : Value) w_46 rfl rfl rfl (by kernel_rfl) ?_
          refine y_gno rfl rfl rfl rfl ?_
          refine y_k (.bool false : Value) w_46 rfl rfl rfl (by kernel_rfl) ?_
          refine y_k (.bool false : Value) w_46 rfl rfl rfl (by kernel_rfl) ?_
          refine y_gno rfl rfl rfl rfl ?_
          refine y_k (.bool false : Value) w_46 rfl rfl rfl (by kernel_rfl) ?_
          refine y_k (.bool false : Value) w_46 rfl rfl rfl (by kernel_rfl) ?_
          refine y_gno rfl rfl rfl rfl ?_
          refine y_gno rfl rfl rfl rfl ?_
          refine y_k (.bool false : Value) w_46 rfl rfl rfl (by kernel_rfl) ?_
          refine y_k (.bool false : Value) w_46 rfl rfl rfl (by kernel_rfl) ?_
          refine y_gno rfl rfl rfl rfl ?_
          refine y_k (.bool false : Value) w_46 rfl rfl rfl (by kernel_rfl) ?_
          refine y_k (.bool false : Value) w_46 rfl rfl rfl (by kernel_rfl) ?_
          refine y_gno rfl rfl rfl rfl ?_
          refine y_gno rfl rfl rfl rfl ?_
          refine y_gno rfl rfl rfl rfl ?_
          refine y_k (.bool false : Value) w_46 rfl rfl rfl (by kernel_rfl) ?_
          refine y_k (.bool false : Value) w_46 rfl rfl rfl (by kernel_rfl) ?_
          refine y_gno rfl rfl rfl rfl ?_
          refine y_gno rfl rfl rfl rfl ?_
          refine y_k (.bool false : Value) w_46 rfl rfl rfl (by kernel_rfl) ?_
          refine y_k (.bool false : Value) w_46 rfl rfl rfl (by kernel_rfl) ?_
          refine y_gno rfl rfl rfl rfl ?_
          refine y_gno rfl rfl rfl rfl ?_
          refine y_gno rfl rfl rfl rfl ?_
          refine y_k (.bool false : Value) w_46 rfl rfl rfl (by kernel_rfl) ?_
          refine y_k (.bool false : Value) w_46 rfl rfl rfl (by kernel_rfl) ?_
          refine y_nil ?_
          exact y_then (hjK16 _ false w_46 rfl h)
      · replace h := h.2 (hb18)
        refine y_frame (upd_id (i := 76) (v := .bool false) rfl (congrArg Value.bool hb18)) ?_
        refine y_gno rfl rfl rfl rfl ?_
        refine y_k (.bool false : Value) w_46 rfl rfl rfl (by kernel_rfl) ?_
        refine y_k (.bool false : Value) w_46 rfl rfl rfl (by kernel_rfl) ?_
        refine y_gno rfl rfl rfl rfl ?_
        refine y_k (.bool false : Value) w_46 rfl rfl rfl (by kernel_rfl) ?_
        refine y_k (.bool false : Value) w_46 rfl rfl rfl (by kernel_rfl) ?_
        refine y_gno rfl rfl rfl rfl ?_
        refine y_k (.bool false : Value) w_46 rfl rfl rfl (by kernel_rfl) ?_
        refine y_k (.bool false : Value) w_46 rfl rfl rfl (by kernel_rfl) ?_
        refine y_gno rfl rfl rfl rfl ?_
        refine y_k (.bool false : Value) w_46 rfl rfl rfl (by kernel_rfl) ?_
        refine y_k (.bool false : Value) w_46 rfl rfl rfl (by kernel_rfl) ?_
        refine y_gno rfl rfl rfl rfl ?_
        refine y_gno rfl rfl rfl rfl ?_
        refine y_k (.bool false : Value) w_46 rfl rfl rfl (by kernel_rfl) ?_
        refine y_k (.bool false : Value) w_46 rfl rfl rfl (by kernel_rfl) ?_
        refine y_gno rfl rfl rfl rfl ?_
        refine y_k (.bool false : Value) w_46 rfl rfl rfl (by kernel_rfl) ?_
        refine y_k (.bool false : Value) w_46 rfl rfl rfl (by kernel_rfl) ?_
        refine y_gno rfl rfl rfl rfl ?_
        refine y_gno rfl rfl rfl rfl ?_
        refine y_gno rfl rfl rfl rfl ?_
        refine y_k (.bool false : Value) w_46 rfl rfl rfl (by kernel_rfl) ?_
        refine y_k (.bool false : Value) w_46 rfl rfl rfl (by kernel_rfl) ?_
        refine y_gno rfl rfl rfl rfl ?_
        refine y_gno rfl rfl rfl rfl ?_
        refine y_k (.bool false : Value) w_46 rfl rfl rfl (by kernel_rfl) ?_
        refine y_k (.bool false : Value) w_46 rfl rfl rfl (by kernel_rfl) ?_
        refine y_gno rfl rfl rfl rfl ?_
        refine y_gno rfl rfl rfl rfl ?_
        refine y_gno rfl rfl rfl rfl ?_
        refine y_k (.bool false : Value) w_46 rfl rfl rfl (by kernel_rfl) ?_
        refine y_k (.bool false : Value) w_46 rfl rfl rfl (by kernel_rfl) ?_
        refine y_nil ?_
        exact y_then (hjK16 _ false w_46 rfl h)
    · replace h := h.2 (hb17)
      refine y_frame (upd_id (i := 73) (v := .bool false) rfl (congrArg Value.bool hb17)) ?_
      refine y_gno rfl rfl rfl rfl ?_
      refine y_k (.bool false : Value) w_46 rfl rfl rfl (by kernel_rfl) ?_
      refine y_k (.bool false : Value) w_46 rfl rfl rfl (by kernel_rfl) ?_
      refine y_gno rfl rfl rfl rfl ?_
      refine y_k (.bool false : Value) w_46 rfl rfl rfl (by kernel_rfl) ?_
      refine y_k (.bool false : Value) w_46 rfl rfl rfl (by kernel_rfl) ?_
      refine y_gno rfl rfl rfl rfl ?_
      refine y_k (.bool false : Value) w_46 rfl rfl rfl (by kernel_rfl) ?_
      refine y_k (.bool false : Value) w_46 rfl rfl rfl (by kernel_rfl) ?_
      refine y_gno rfl rfl rfl rfl ?_
      refine y_k (.bool false : Value) w_46 rfl rfl rfl (by kernel_rfl) ?_
      refine y_k (.bool false : Value) w_46 rfl rfl rfl (by kernel_rfl) ?_
      refine y_gno rfl rfl rfl rfl ?_
      refine y_k (.bool false : Value) w_46 rfl rfl rfl (by kernel_rfl) ?_
      refine y_k (.bool false : Value) w_46 rfl rfl rfl (by kernel_rfl) ?_
      refine y_gno rfl rfl rfl rfl ?_
      refine y_gno rfl rfl rfl rfl ?_
      refine y_k (.bool false : Value) w_46 rfl rfl rfl (by kernel_rfl) ?_
      refine y_k (.bool false : Value) w_46 rfl rfl rfl (by kernel_rfl) ?_
      refine y_gno rfl rfl rfl rfl ?_
      refine y_k (.bool false : Value) w_46 rfl rfl rfl (by kernel_rfl) ?_
      refine y_k (.bool false : Value) w_46 rfl rfl rfl (by kernel_rfl) ?_
      refine y_gno rfl rfl rfl rfl ?_
      refine y_gno rfl rfl rfl rfl ?_
      refine y_gno rfl rfl rfl rfl ?_
      refine y_k (.bool false : Value) w_46 rfl rfl rfl (by kernel_rfl) ?_
      refine y_k (.bool false : Value) w_46 rfl rfl rfl (by kernel_rfl) ?_
      refine y_gno rfl rfl rfl rfl ?_
      refine y_gno rfl rfl rfl rfl ?_
      refine y_k (.bool false : Value) w_46 rfl rfl rfl (by kernel_rfl) ?_
      refine y_k (.bool false : Value) w_46 rfl rfl rfl (by kernel_rfl) ?_
      refine y_gno rfl rfl rfl rfl ?_
      refine y_gno rfl rfl rfl rfl ?_
      refine y_gno rfl rfl rfl rfl ?_
      refine y_k (.bool false : Value) w_46 rfl rfl rfl (by kernel_rfl) ?_
      refine y_k (.bool false : Value) w_46 rfl rfl rfl (by kernel_rfl) ?_
      refine y_nil ?_
      exact y_then (hjK16 _ false w_46 rfl h)
  refine y_region ?_
  refine y_k (.slice t38_20.a t38_20.n t38_20.c : Value) w_36 rfl rfl rfl (by kernel_rfl) ?_
  refine y_k (.slice (some ⟨w_36.heap.size, 0, none⟩) 4 4 : Value) (w_36.alloc (.cells #[.int .u32 1, .int .u32 3, .int .u32 4, .int .u32 5] 23)) rfl rfl rfl (by kernel_rfl) ?_
  replace h := h _ rfl
  generalize w_36.alloc (.cells #[.int .u32 1, .int .u32 3, .int .u32 4, .int .u32 5] 23) = w_37 at h ⊢
  refine y_call rfl rfl rfl (by kernel_rfl) (h.mono ?_)
  rintro _ w_39 ⟨t61_38, rfl, h⟩
  refine ⟨_, rfl, ?_⟩
  refine y_k (.bool t61_38 : Value) w_39 rfl rfl rfl (by kernel_rfl) ?_
  refine y_fork (t61_38) (fun hb14 => ?_) (fun hb14 => ?_)
  · replace h := h.1 (hb14)
    refine y_frame (upd_id (i := 62) (v := .bool true) rfl (congrArg Value.bool hb14)) ?_
    refine y_gyes rfl rfl rfl ?_
    refine y_k (.slice t43_23.a t43_23.n t43_23.c : Value) w_39 rfl rfl rfl (by kernel_rfl) ?_
    refine y_gyes rfl rfl rfl ?_
    refine y_k (.slice (some ⟨w.heap.size, 0, none⟩) 3 3 : Value) w_39 rfl rfl rfl (by kernel_rfl) ?_
    refine y_gyes rfl rfl rfl ?_
    refine y_call rfl rfl rfl (by kernel_rfl) (h.mono ?_)
    rintro _ w_41 ⟨t65_40, rfl, h⟩
    refine ⟨_, rfl, ?_⟩
    refine y_k (.bool t65_40 : Value) w_41 rfl rfl rfl (by kernel_rfl) ?_
    refine y_k (.bool t65_40 : Value) w_41 rfl rfl rfl (by kernel_rfl) ?_
    refine y_fork (t65_40) (fun hb15 => ?_) (fun hb15 => ?_)
    · replace h := h.1 (hb15)
      refine y_frame (upd_id (i := 67) (v := .bool true) rfl (congrArg Value.bool hb15)) ?_
      refine y_gyes rfl rfl rfl ?_
      refine y_k (.slice t53_31.a t53_31.n t53_31.c : Value) w_41 rfl rfl rfl (by kernel_rfl) ?_
      refine y_gyes rfl rfl rfl ?_
      refine y_k (.slice (some ⟨w_41.heap.size, 0, none⟩) 2 2 : Value) (w_41.alloc (.cells #[.int .u32 1, .int .u32 2] 23)) rfl rfl rfl (by kernel_rfl) ?_
      replace h := h _ rfl
      generalize w_41.alloc (.cells #[.int .u32 1, .int .u32 2] 23) = w_42 at h ⊢
      refine y_gyes rfl rfl rfl ?_
      refine y_call rfl rfl rfl (by kernel_rfl) (h.mono ?_)
      rintro _ w_44 ⟨t70_43, rfl, h⟩
      refine ⟨_, rfl, ?_⟩
      refine y_k (.bool t70_43 : Value) w_44 rfl rfl rfl (by kernel_rfl) ?_
      refine y_k (.bool t70_43 : Value) w_44 rfl rfl rfl (by kernel_rfl) ?_
      refine y_nil ?_
      exact y_then (hjK13 _ t70_43 w_44 rfl rfl rfl rfl rfl rfl rfl rfl rfl rfl rfl h)
    · replace h := h.2 (hb15)
      refine y_frame (upd_id (i := 67) (v := .bool false) rfl (congrArg Value.bool hb15)) ?_
      refine y_gno rfl rfl rfl rfl ?_
      refine y_gno rfl rfl rfl rfl ?_
      refine y_gno rfl rfl rfl rfl ?_
      refine y_k (.bool false : Value) w_41 rfl rfl rfl (by kernel_rfl) ?_
      refine y_k (.bool false : Value) w_41 rfl rfl rfl (by kernel_rfl) ?_
      refine y_nil ?_
      exact y_then (hjK13 _ false w_41 rfl rfl rfl rfl rfl rfl rfl rfl rfl rfl rfl h)
  · replace h := h.2 (hb14)
    refine y_frame (upd_id (i := 62) (v := .bool false) rfl (congrArg Value.bool hb14)) ?_
    refine y_gno rfl rfl rfl rfl ?_
    refine y_gno rfl rfl rfl rfl ?_
    refine y_gno rfl rfl rfl rfl ?_
    refine y_k (.bool false : Value) w_39 rfl rfl rfl (by kernel_rfl) ?_
    refine y_k (.bool false : Value) w_39 rfl rfl rfl (by kernel_rfl) ?_
    refine y_gno rfl rfl rfl rfl ?_
    refine y_gno rfl rfl rfl rfl ?_
    refine y_gno rfl rfl rfl rfl ?_
    refine y_k (.bool false : Value) w_39 rfl rfl rfl (by kernel_rfl) ?_
    refine y_k (.bool false : Value) w_39 rfl rfl rfl (by kernel_rfl) ?_
    refine y_nil ?_
    exact y_then (hjK13 _ false w_39 rfl rfl rfl rfl rfl rfl rfl rfl rfl rfl rfl h)

end Go.Proofs.Ytjgijifankaglaa
