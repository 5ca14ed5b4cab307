/- Printed by gen.py (own program, wip/): for each Go function a predicate transformer and its soundness. -/
import Derived.Test.YtjgijifankaglaaProg
import Derived.Test.YtjgijifankaglaaST
namespace Go.Proofs.Ytjgijifankaglaa
open Go Go.RowKit Go.Proofs.Ytjgijifankaglaa.SX
set_option linter.unusedVariables false

/-- (*strings.Builder).copyCheck -/
def F100 (b0_1 : Option Addr) (K : World → Prop) (w : World) : Prop :=
  ∃ (a_2 : Addr), b0_1 = some a_2 ∧
  ∃ (t5_3 : Option Addr), w.cell? a_2 = some (.pointer t5_3) ∧
  ((t5_3.isNone = true →
  (convert 103 162 (.pointer b0_1 : Value)).run Try.prog w = .ok (.pointer b0_1 : Value) w ∧
  (convert 162 103 (.pointer b0_1 : Value)).run Try.prog w = .ok (.pointer b0_1 : Value) w ∧
  ∃ (a_4 : Addr), b0_1 = some a_4 ∧
  HasCell w a_4 ∧ ∀ (w_5 : World), w_5 = w.setCell a_4 (.pointer b0_1 : Value) →
  K w_5) ∧
  (t5_3.isNone = false →
  ∃ (a_6 : Addr), b0_1 = some a_6 ∧
  ∃ (t17_7 : Option Addr), w.cell? a_6 = some (.pointer t17_7) ∧
  ∃ (t19_8 : Bool), (do eqGuard .neq 103 (Operand.tmp 17) (Operand.tmp 18) (.pointer t17_7 : Value) (.pointer b0_1 : Value); binOp .neq 103 (.pointer t17_7 : Value) (.pointer b0_1 : Value)).run Try.prog w = .ok (.bool t19_8 : Value) w ∧
  ((t19_8 = true →
  False) ∧
  (t19_8 = false →
  K w))))
set_option maxHeartbeats 4000000 in
set_option maxRecDepth 20000 in
theorem F100_sound (b0_1 : Option Addr) (K : World → Prop) (w : World) (h : F100 b0_1 K w) :
    Calls Try.prog 100 #[.pointer b0_1] w (fun e w1 => e = .returned (.tuple #[]) ∧ K  w1) := by
  unfold F100 at h
  refine y_enter (n := 20) (args := [.pointer b0_1]) Try.func100 rfl rfl rfl fun Q0 hQ0 => ?_
  refine y_seq fun K1 hK1 => ?_
  refine y_region ?_
  refine y_k (.pointer b0_1 : Value) w rfl rfl rfl (by kernel_rfl) ?_
  obtain ⟨a_2, hx2, h⟩ := h
  refine y_k (.pointer (some a_2) : Value) w rfl rfl rfl (run_nilCheck hx2 rfl) ?_
  refine y_k (.pointer (some a_2) : Value) w rfl rfl rfl (by kernel_rfl) ?_
  obtain ⟨t5_3, hx3, h⟩ := h
  refine y_v (s := Instr.loadAt 103 (.pointer (some a_2))) rfl rfl rfl (by kernel_rfl) (rn_load (by kernel_rfl) hx3) ?_
  refine y_v (v := (.bool t5_3.isNone : Value)) (s := do eqGuard .eql 103 (Operand.tmp 5) (Operand.const (Value.pointer none)) (.pointer t5_3 : Value) (.pointer none : Value); binOp .eql 103 (.pointer t5_3 : Value) (.pointer none : Value)) rfl rfl rfl (by kernel_rfl) (run_eql_ptrnil (by kernel_rfl)) ?_
  refine y_nil ?_
  refine y_then (hK1 _ _ ?_)
  refine y_cond (t5_3.isNone) rfl rfl (fun hb13 => ?_) (fun hb13 => ?_)
  · replace h := h.1 (hb13)
    refine y_region ?_
    refine y_k (.pointer b0_1 : Value) w rfl rfl rfl (by kernel_rfl) ?_
    refine y_k (.pointer b0_1 : Value) w rfl rfl rfl (by kernel_rfl) ?_
    obtain ⟨hx4, h⟩ := h
    refine y_v (s := convert 103 162 (.pointer b0_1 : Value)) rfl rfl rfl (by kernel_rfl) (hx4) ?_
    refine y_k (.pointer b0_1 : Value) w rfl rfl rfl (by kernel_rfl) ?_
    obtain ⟨hx5, h⟩ := h
    refine y_v (s := convert 162 103 (.pointer b0_1 : Value)) rfl rfl rfl (by kernel_rfl) (hx5) ?_
    obtain ⟨a_4, hx6, h⟩ := h
    refine y_k (.pointer (some a_4) : Value) w rfl rfl rfl (run_nilCheck hx6 rfl) ?_
    refine y_k (.pointer (some a_4) : Value) w rfl rfl rfl (by kernel_rfl) ?_
    obtain ⟨hx7, h⟩ := h
    replace h := h _ rfl
    refine y_u (s := Instr.storeAt 103 (.pointer (some a_4)) (.pointer b0_1 : Value)) rfl rfl (by kernel_rfl) (rn_store1 (by kernel_rfl) rfl hx7) ?_
    generalize w.setCell a_4 (.pointer b0_1 : Value) = w_5 at h ⊢
    refine y_nil ?_
    exact (hQ0 _ _ _ (res0 rfl) ⟨rfl, h⟩).2
  · replace h := h.2 (hb13)
    refine y_seq fun K8 hK8 => ?_
    refine y_region ?_
    refine y_k (.pointer b0_1 : Value) w rfl rfl rfl (by kernel_rfl) ?_
    obtain ⟨a_6, hx9, h⟩ := h
    refine y_k (.pointer (some a_6) : Value) w rfl rfl rfl (run_nilCheck hx9 rfl) ?_
    refine y_k (.pointer (some a_6) : Value) w rfl rfl rfl (by kernel_rfl) ?_
    obtain ⟨t17_7, hx10, h⟩ := h
    refine y_v (s := Instr.loadAt 103 (.pointer (some a_6))) rfl rfl rfl (by kernel_rfl) (rn_load (by kernel_rfl) hx10) ?_
    refine y_k (.pointer b0_1 : Value) w rfl rfl rfl (by kernel_rfl) ?_
    obtain ⟨t19_8, hx11, h⟩ := h
    refine y_v (s := do eqGuard .neq 103 (Operand.tmp 17) (Operand.tmp 18) (.pointer t17_7 : Value) (.pointer b0_1 : Value); binOp .neq 103 (.pointer t17_7 : Value) (.pointer b0_1 : Value)) rfl rfl rfl (by kernel_rfl) (hx11) ?_
    refine y_nil ?_
    refine y_then (hK8 _ _ ?_)
    refine y_cond (t19_8) rfl rfl (fun hb12 => ?_) (fun hb12 => ?_)
    · replace h := h.1 (hb12)
      exact h.elim
    · replace h := h.2 (hb12)
      refine y_skip ?_
      exact (hQ0 _ _ _ (res0 rfl) ⟨rfl, h⟩).2

/-- (*strings.Builder).WriteByte -/
def F80 (b0_1 : Option Addr) (c1_2 : Int) (K : Value → World → Prop) (w : World) : Prop :=
  Calls Try.prog 100 #[.pointer b0_1] w fun e w_3 => e = .returned (.tuple #[] : Value) ∧
  ∃ (a_4 : Addr), b0_1 = some a_4 ∧
  ∃ (t11_5 : Sl), w_3.cell? (a_4.add 1) = some (.slice t11_5.a t11_5.n t11_5.c) ∧
  ∀ (w_6 : World), w_6 = w_3.alloc (.cells #[.int .u8 c1_2] 5) →
  ∃ (t14_7 : Sl), ∃ (w_8 : World), (Builtin.append_ #[33, 33] 33 #[.slice t11_5.a t11_5.n t11_5.c, .slice (some ⟨w_3.heap.size, 0, none⟩) 1 1]).run Try.prog w_6 = .ok (.slice t14_7.a t14_7.n t14_7.c : Value) w_8 ∧
  ∃ (a_9 : Addr), b0_1 = some a_9 ∧
  HasCell w_8 (a_9.add 1) ∧ ∀ (w_10 : World), w_10 = w_8.setCell (a_9.add 1) (.slice t14_7.a t14_7.n t14_7.c : Value) →
  K ((Value.nilIface)) w_10
set_option maxHeartbeats 4000000 in
set_option maxRecDepth 20000 in
theorem F80_sound (b0_1 : Option Addr) (c1_2 : Int) (K : Value → World → Prop) (w : World) (h : F80 b0_1 c1_2 K w) :
    Calls Try.prog 80 #[.pointer b0_1, .int .u8 c1_2] w (fun e w1 => ∃ (r0 : Value), e = .returned r0 ∧ K r0 w1) := by
  unfold F80 at h
  refine y_enter (n := 17) (args := [.pointer b0_1, .int .u8 c1_2]) Try.func80 rfl rfl rfl fun Q0 hQ0 => ?_
  refine y_seq fun K1 hK1 => ?_
  refine y_region ?_
  refine y_k (Value.nilIface) w rfl rfl rfl (by kernel_rfl) ?_
  refine y_nil ?_
  refine y_then (hK1 _ _ ?_)
  refine y_seq fun K2 hK2 => ?_
  refine y_region ?_
  refine y_k (.pointer b0_1 : Value) w rfl rfl rfl (by kernel_rfl) ?_
  refine y_call rfl rfl rfl (by kernel_rfl) (h.mono ?_)
  rintro _ w_3 ⟨rfl, h⟩
  refine ⟨_, rfl, ?_⟩
  refine y_nil ?_
  refine y_then (hK2 _ _ ?_)
  refine y_seq fun K3 hK3 => ?_
  refine y_region ?_
  refine y_k (.pointer b0_1 : Value) w_3 rfl rfl rfl (by kernel_rfl) ?_
  refine y_k (.pointer b0_1 : Value) w_3 rfl rfl rfl (by kernel_rfl) ?_
  obtain ⟨a_4, hx4, h⟩ := h
  refine y_k (.pointer (some a_4) : Value) w_3 rfl rfl rfl (run_nilCheck hx4 rfl) ?_
  refine y_k (.pointer (some (a_4.add 1)) : Value) w_3 rfl rfl rfl (by kernel_rfl) ?_
  obtain ⟨t11_5, hx5, h⟩ := h
  refine y_v (s := Instr.loadAt 33 (.pointer (some (a_4.add 1)))) rfl rfl rfl (by kernel_rfl) (rn_load (by kernel_rfl) hx5) ?_
  refine y_k (.int .u8 c1_2 : Value) w_3 rfl rfl rfl (by kernel_rfl) ?_
  refine y_k (.slice (some ⟨w_3.heap.size, 0, none⟩) 1 1 : Value) (w_3.alloc (.cells #[.int .u8 c1_2] 5)) rfl rfl rfl (by kernel_rfl) ?_
  replace h := h _ rfl
  generalize w_3.alloc (.cells #[.int .u8 c1_2] 5) = w_6 at h ⊢
  obtain ⟨t14_7, w_8, hx6, h⟩ := h
  refine y_v (s := Builtin.append_ #[33, 33] 33 #[.slice t11_5.a t11_5.n t11_5.c, .slice (some ⟨w_3.heap.size, 0, none⟩) 1 1]) rfl rfl rfl (by kernel_rfl) hx6 ?_
  obtain ⟨a_9, hx7, h⟩ := h
  refine y_k (.pointer (some a_9) : Value) w_8 rfl rfl rfl (run_nilCheck hx7 rfl) ?_
  refine y_k (.pointer (some (a_9.add 1)) : Value) w_8 rfl rfl rfl (by kernel_rfl) ?_
  obtain ⟨hx8, h⟩ := h
  replace h := h _ rfl
  refine y_u (s := Instr.storeAt 33 (.pointer (some (a_9.add 1))) (.slice t14_7.a t14_7.n t14_7.c : Value)) rfl rfl (by kernel_rfl) (rn_store1 (by kernel_rfl) rfl hx8) ?_
  generalize w_8.setCell (a_9.add 1) (.slice t14_7.a t14_7.n t14_7.c : Value) = w_10 at h ⊢
  refine y_nil ?_
  refine y_then (hK3 _ _ ?_)
  refine y_seq fun K9 hK9 => ?_
  refine y_region ?_
  refine y_k (Value.nilIface) w_10 rfl rfl rfl (by kernel_rfl) ?_
  refine y_nil ?_
  refine y_then (hK9 _ _ ?_)
  refine y_ret ?_
  repeat (first | refine e_then_r ?_ | refine e_block_r ?_)
  exact (hQ0 _ _ _ (res1 (v := (Value.nilIface)) rfl rfl rfl) ⟨_, rfl, h⟩).1

def F51_l1 (b0_1 : Sl) (K : ByteArray → World → Prop) (w : World) (next6 : (Int) → World → Prop) : (Int) → World → Prop := fun (t8_3) w_4 =>
  ((t8_3 < ((b0_1.n : Int)) →
  (0 : Int) ≤ t8_3 ∧ t8_3 < (b0_1.n : Int) ∧ ∃ (a_5 : Addr), b0_1.a = some a_5 ∧
  ∃ (t11_6 : Int), w_4.cell? (a_5.add (Int.toNat t8_3)) = some (.int .u8 t11_6) ∧
  ∃ (t14_7 : Int), (Instr.index 9 (.string ((ByteArray.mk #[48, 49, 50, 51, 52, 53, 54, 55, 56, 57, 97, 98, 99, 100, 101, 102])) : Value) (.int .u8 (Int.fdiv t11_6 (2 ^ 4)) : Value)).run Try.prog w_4 = .ok (.int .u8 t14_7 : Value) w_4 ∧
  Calls Try.prog 80 #[.pointer (some (⟨w.heap.size, 0, none⟩ : Addr)), .int .u8 t14_7] w_4 fun e w_9 => ∃ (t15_8 : Value), e = .returned t15_8 ∧
  ∃ (t18_10 : Int), (Instr.index 9 (.string ((ByteArray.mk #[48, 49, 50, 51, 52, 53, 54, 55, 56, 57, 97, 98, 99, 100, 101, 102])) : Value) (.int .u8 (ibits .and .u8 t11_6 15) : Value)).run Try.prog w_9 = .ok (.int .u8 t18_10 : Value) w_9 ∧
  Calls Try.prog 80 #[.pointer (some (⟨w.heap.size, 0, none⟩ : Addr)), .int .u8 t18_10] w_9 fun e w_12 => ∃ (t19_11 : Value), e = .returned t19_11 ∧
  next6 (IntKind.i64.wrap (t8_3 + 1)) w_12) ∧
  (¬ (t8_3 < ((b0_1.n : Int))) →
  Calls Try.prog 81 #[.pointer (some (⟨w.heap.size, 0, none⟩ : Addr))] w_4 fun e w_14 => ∃ (t21_13 : ByteArray), e = .returned (.string t21_13 : Value) ∧
  K t21_13 w_14))
/-- turnkey/sum.Hex -/
def F51 (b0_1 : Sl) (K : ByteArray → World → Prop) (w : World) : Prop :=
  ∀ (w_2 : World), w_2 = w.alloc (.cells #[.pointer none, .slice none 0 0] 105) →
  kLoop (F51_l1 b0_1 K w) (0) w_2
set_option maxHeartbeats 4000000 in
set_option maxRecDepth 20000 in
theorem F51_sound (b0_1 : Sl) (K : ByteArray → World → Prop) (w : World) (h : F51 b0_1 K w) :
    Calls Try.prog 51 #[.slice b0_1.a b0_1.n b0_1.c] w (fun e w1 => ∃ (r0 : ByteArray), e = .returned (.string r0 : Value) ∧ K r0 w1) := by
  unfold F51 at h
  refine y_enter (n := 22) (args := [.slice b0_1.a b0_1.n b0_1.c]) Try.func51 rfl rfl rfl fun Q0 hQ0 => ?_
  refine y_seq fun K1 hK1 => ?_
  refine y_region ?_
  refine y_k (.string ((ByteArray.mk #[])) : Value) w rfl rfl rfl (by kernel_rfl) ?_
  refine y_nil ?_
  refine y_then (hK1 _ _ ?_)
  refine y_seq fun K2 hK2 => ?_
  refine y_region ?_
  refine y_k (.pointer (some (⟨w.heap.size, 0, none⟩ : Addr)) : Value) (w.alloc (.cells #[.pointer none, .slice none 0 0] 105)) rfl rfl rfl (by kernel_rfl) ?_
  replace h := h _ rfl
  generalize w.alloc (.cells #[.pointer none, .slice none 0 0] 105) = w_2 at h ⊢
  refine y_nil ?_
  refine y_then (hK2 _ _ ?_)
  refine y_seq fun K3 hK3 => ?_
  refine y_seq fun K4 hK4 => ?_
  refine y_region ?_
  refine y_k (.slice b0_1.a b0_1.n b0_1.c : Value) w_2 rfl rfl rfl (by kernel_rfl) ?_
  refine y_k (.int .i64 ((b0_1.n : Int)) : Value) w_2 rfl rfl rfl (by kernel_rfl) ?_
  refine y_k (.int .i64 0 : Value) w_2 rfl rfl rfl (by kernel_rfl) ?_
  refine y_nil ?_
  refine y_then (hK4 _ _ ?_)
  refine y_block ?_
  refine y_loop (S := Int) (fun s j => match s with | (t8_3) => upd (upd (upd (upd (j) 3 (.pointer (some (⟨w.heap.size, 0, none⟩ : Addr)) : Value)) 6 (.slice b0_1.a b0_1.n b0_1.c : Value)) 7 (.int .i64 ((b0_1.n : Int)) : Value)) 8 (.int .i64 t8_3 : Value)) (0) ?_ h ?_
  · dsimp only
    refine upd_id ?_ rfl
    refine upd_id ?_ rfl
    refine upd_id ?_ rfl
    refine upd_id ?_ rfl
    rfl
  rintro KN7 next6 hN7 t8_3 j w_4 h
  unfold F51_l1 at h
  refine y_seq fun K8 hK8 => ?_
  refine y_region ?_
  refine y_k (.bool (decide (t8_3 < ((b0_1.n : Int)))) : Value) w_4 rfl rfl rfl (by kernel_rfl) ?_
  refine y_nil ?_
  refine y_then (hK8 _ _ ?_)
  refine y_seq fun K9 hK9 => ?_
  refine y_cond (decide (t8_3 < ((b0_1.n : Int)))) rfl rfl (fun hb19 => ?_) (fun hb19 => ?_)
  · replace h := h.1 (of_decide_eq_true hb19)
    refine y_skip ?_
    refine y_then (hK9 _ _ ?_)
    refine y_seq fun K10 hK10 => ?_
    refine y_block ?_
    refine y_seq fun K12 hK12 => ?_
    refine y_region ?_
    obtain ⟨hx13a, hx13b, a_5, hx13, h⟩ := h
    refine y_v (v := (.pointer (some (a_5.add (Int.toNat t8_3))) : Value)) (s := Instr.indexAt 33 (.slice b0_1.a b0_1.n b0_1.c : Value) (.int .i64 t8_3 : Value)) rfl rfl rfl (by kernel_rfl) (run_ixs1 (el := 5) (by kernel_rfl) (by kernel_rfl) hx13 hx13a hx13b) ?_
    obtain ⟨t11_6, hx14, h⟩ := h
    refine y_v (s := Instr.loadAt 5 (.pointer (some (a_5.add (Int.toNat t8_3))))) rfl rfl rfl (by kernel_rfl) (rn_load (by kernel_rfl) hx14) ?_
    refine y_k (.int .u8 t11_6 : Value) w_4 rfl rfl rfl (by kernel_rfl) ?_
    refine y_nil ?_
    refine y_then (hK12 _ _ ?_)
    refine y_seq fun K15 hK15 => ?_
    refine y_region ?_
    refine y_k (.int .u8 t11_6 : Value) w_4 rfl rfl rfl (by kernel_rfl) ?_
    refine y_k (.int .u8 (Int.fdiv t11_6 (2 ^ 4)) : Value) w_4 rfl rfl rfl (by kernel_rfl) ?_
    obtain ⟨t14_7, hx16, h⟩ := h
    refine y_v (s := Instr.index 9 (.string ((ByteArray.mk #[48, 49, 50, 51, 52, 53, 54, 55, 56, 57, 97, 98, 99, 100, 101, 102])) : Value) (.int .u8 (Int.fdiv t11_6 (2 ^ 4)) : Value)) rfl rfl rfl (by kernel_rfl) (hx16) ?_
    refine y_call rfl rfl rfl (by kernel_rfl) (h.mono ?_)
    rintro _ w_9 ⟨t15_8, rfl, h⟩
    refine ⟨_, rfl, ?_⟩
    refine y_nil ?_
    refine y_then (hK15 _ _ ?_)
    refine y_region ?_
    refine y_k (.int .u8 t11_6 : Value) w_9 rfl rfl rfl (by kernel_rfl) ?_
    refine y_k (.int .u8 (ibits .and .u8 t11_6 15) : Value) w_9 rfl rfl rfl (by kernel_rfl) ?_
    obtain ⟨t18_10, hx17, h⟩ := h
    refine y_v (s := Instr.index 9 (.string ((ByteArray.mk #[48, 49, 50, 51, 52, 53, 54, 55, 56, 57, 97, 98, 99, 100, 101, 102])) : Value) (.int .u8 (ibits .and .u8 t11_6 15) : Value)) rfl rfl rfl (by kernel_rfl) (hx17) ?_
    refine y_call rfl rfl rfl (by kernel_rfl) (h.mono ?_)
    rintro _ w_12 ⟨t19_11, rfl, h⟩
    refine ⟨_, rfl, ?_⟩
    refine y_nil ?_
    refine e_block_n ?_
    refine y_then (hK10 _ _ ?_)
    refine y_region ?_
    refine y_k (.int .i64 (IntKind.i64.wrap (t8_3 + 1)) : Value) w_12 rfl rfl rfl (by kernel_rfl) ?_
    refine y_k (.int .i64 (IntKind.i64.wrap (t8_3 + 1)) : Value) w_12 rfl rfl rfl (by kernel_rfl) ?_
    refine y_nil ?_
    refine y_then (hN7 (IntKind.i64.wrap (t8_3 + 1)) _ _ h ?_)
    dsimp only
    refine upd_id ?_ rfl
    refine upd_id ?_ rfl
    refine upd_id ?_ rfl
    refine upd_id ?_ rfl
    rfl
  · replace h := h.2 (of_decide_eq_false hb19)
    refine y_exit ?_
    repeat (first | refine e_then_x ?_ | refine e_block_y rfl ?_)
    refine e_block_x ?_
    refine y_then (hK3 _ _ ?_)
    refine y_seq fun K18 hK18 => ?_
    refine y_region ?_
    refine y_call rfl rfl rfl (by kernel_rfl) (h.mono ?_)
    rintro _ w_14 ⟨t21_13, rfl, h⟩
    refine ⟨_, rfl, ?_⟩
    refine y_k (.string t21_13 : Value) w_14 rfl rfl rfl (by kernel_rfl) ?_
    refine y_nil ?_
    refine y_then (hK18 _ _ ?_)
    refine y_ret ?_
    repeat (first | refine e_then_r ?_ | refine e_block_r ?_)
    exact (hQ0 _ _ _ (res1 (v := (.string t21_13 : Value)) rfl rfl rfl) ⟨_, rfl, h⟩).1

def F52_l1 (s0_1 : ByteArray) (K : Sl → Bool → World → Prop) (next10 : (Sl × Int) → World → Prop) : (Sl × Int) → World → Prop := fun (b4_4, i5_5) w_6 =>
  ((i5_5 < ((s0_1.size : Int)) →
  ∀ (w_7 : World), w_7 = w_6.drew →
  ∃ (t24_8 : Int), (Instr.index 9 (.string s0_1 : Value) (.int .i64 i5_5 : Value)).run Try.prog w_7 = .ok (.int .u8 t24_8 : Value) w_7 ∧
  ∃ (t29_9 : Int), (Instr.index 9 (.string s0_1 : Value) (.int .i64 (IntKind.i64.wrap (i5_5 + 1)) : Value)).run Try.prog w_7 = .ok (.int .u8 t29_9 : Value) w_7 ∧
  Calls Try.prog 82 #[.string ((ByteArray.mk #[48, 49, 50, 51, 52, 53, 54, 55, 56, 57, 97, 98, 99, 100, 101, 102])), .int .u8 t24_8] w_7 fun e w_11 => ∃ (t25_10 : Int), e = .returned (.int .i64 t25_10 : Value) ∧ (Instr.index 9 (.string s0_1 : Value) (.int .i64 (IntKind.i64.wrap (i5_5 + 1)) : Value)).run Try.prog w_11 = .ok (.int .u8 t29_9 : Value) w_11 ∧ 
  Calls Try.prog 82 #[.string ((ByteArray.mk #[48, 49, 50, 51, 52, 53, 54, 55, 56, 57, 97, 98, 99, 100, 101, 102])), .int .u8 t29_9] w_11 fun e w_13 => ∃ (t30_12 : Int), e = .returned (.int .i64 t30_12 : Value) ∧ 
  ((t25_10 < 0 →
  K (⟨none, 0, 0⟩) false w_13) ∧
  (¬ (t25_10 < 0) →
  ((t30_12 < 0 →
  K (⟨none, 0, 0⟩) false w_13) ∧
  (¬ (t30_12 < 0) →
  ∀ (w_14 : World), w_14 = w_13.alloc (.cells #[.int .u8 (IntKind.u8.wrap (IntKind.i64.wrap ((IntKind.i64.wrap (16 * t25_10)) + t30_12)))] 5) →
  ∃ (t44_15 : Sl), ∃ (w_16 : World), (Builtin.append_ #[33, 33] 33 #[.slice b4_4.a b4_4.n b4_4.c, .slice (some ⟨w_13.heap.size, 0, none⟩) 1 1]).run Try.prog w_14 = .ok (.slice t44_15.a t44_15.n t44_15.c : Value) w_16 ∧
  next10 (t44_15, IntKind.i64.wrap (i5_5 + 2)) w_16))))) ∧
  (¬ (i5_5 < ((s0_1.size : Int))) →
  K b4_4 true w_6))
/-- turnkey/sum.Unhex -/
def F52 (s0_1 : ByteArray) (K : Sl → Bool → World → Prop) (w : World) : Prop :=
  ((¬ ((Int.tmod ((s0_1.size : Int)) 2)) = 0 →
  K (⟨none, 0, 0⟩) false w) ∧
  (((Int.tmod ((s0_1.size : Int)) 2)) = 0 →
  ∃ (t15_2 : Sl), ∃ (w_3 : World), (Instr.makeSlice 33 (.int .i64 0 : Value) (.int .i64 (IntKind.i64.wrap (Int.tdiv ((s0_1.size : Int)) 2)) : Value)).run Try.prog w = .ok (.slice t15_2.a t15_2.n t15_2.c : Value) w_3 ∧
  kLoop (F52_l1 s0_1 K) (t15_2, 0) w_3))
set_option maxHeartbeats 4000000 in
set_option maxRecDepth 20000 in
theorem F52_sound (s0_1 : ByteArray) (K : Sl → Bool → World → Prop) (w : World) (h : F52 s0_1 K w) :
    Calls Try.prog 52 #[.string s0_1] w (fun e w1 => ∃ (r0 : Sl), ∃ (r1 : Bool), e = .returned (.tuple #[.slice r0.a r0.n r0.c, .bool r1]) ∧ K r0 r1 w1) := by
  unfold F52 at h
  refine y_enter (n := 46) (args := [.string s0_1]) Try.func52 rfl rfl rfl fun Q0 hQ0 => ?_
  refine y_seq fun K1 hK1 => ?_
  refine y_region ?_
  refine y_k (.slice none 0 0 : Value) w rfl rfl rfl (by kernel_rfl) ?_
  refine y_k (.bool false : Value) w rfl rfl rfl (by kernel_rfl) ?_
  refine y_nil ?_
  refine y_then (hK1 _ _ ?_)
  refine y_seq fun K2 hK2 => ?_
  refine y_seq fun K3 hK3 => ?_
  refine y_region ?_
  refine y_k (.string s0_1 : Value) w rfl rfl rfl (by kernel_rfl) ?_
  refine y_k (.int .i64 ((s0_1.size : Int)) : Value) w rfl rfl rfl (by kernel_rfl) ?_
  refine y_k (.int .i64 (Int.tmod ((s0_1.size : Int)) 2) : Value) w rfl rfl rfl (by kernel_rfl) ?_
  refine y_k (.bool ((((Int.tmod ((s0_1.size : Int)) 2)) != 0)) : Value) w rfl rfl rfl (by kernel_rfl) ?_
  refine y_nil ?_
  refine y_then (hK3 _ _ ?_)
  refine y_cond ((((Int.tmod ((s0_1.size : Int)) 2)) != 0)) rfl rfl (fun hb30 => ?_) (fun hb30 => ?_)
  · replace h := h.1 (bne_iff_ne.mp hb30)
    refine y_seq fun K4 hK4 => ?_
    refine y_region ?_
    refine y_k (.slice none 0 0 : Value) w rfl rfl rfl (by kernel_rfl) ?_
    refine y_k (.bool false : Value) w rfl rfl rfl (by kernel_rfl) ?_
    refine y_nil ?_
    refine y_then (hK4 _ _ ?_)
    refine y_ret ?_
    repeat (first | refine e_then_r ?_ | refine e_block_r ?_)
    exact (hQ0 _ _ _ (res2 (v1 := (.slice none 0 0 : Value)) (v2 := (.bool false : Value)) rfl rfl rfl rfl) ⟨_, _, rfl, h⟩).1
  · replace h := h.2 (bne_eq_false_iff_eq.mp hb30)
    refine y_skip ?_
    refine y_then (hK2 _ _ ?_)
    refine y_seq fun K5 hK5 => ?_
    refine y_region ?_
    refine y_k (.string s0_1 : Value) w rfl rfl rfl (by kernel_rfl) ?_
    refine y_k (.int .i64 ((s0_1.size : Int)) : Value) w rfl rfl rfl (by kernel_rfl) ?_
    refine y_k (.int .i64 (IntKind.i64.wrap (Int.tdiv ((s0_1.size : Int)) 2)) : Value) w rfl rfl rfl (by kernel_rfl) ?_
    obtain ⟨t15_2, w_3, hx6, h⟩ := h
    refine y_v (s := Instr.makeSlice 33 (.int .i64 0 : Value) (.int .i64 (IntKind.i64.wrap (Int.tdiv ((s0_1.size : Int)) 2)) : Value)) rfl rfl rfl (by kernel_rfl) hx6 ?_
    refine y_k (.slice t15_2.a t15_2.n t15_2.c : Value) w_3 rfl rfl rfl (by kernel_rfl) ?_
    refine y_nil ?_
    refine y_then (hK5 _ _ ?_)
    refine y_seq fun K7 hK7 => ?_
    refine y_seq fun K8 hK8 => ?_
    refine y_region ?_
    refine y_k (.int .i64 0 : Value) w_3 rfl rfl rfl (by kernel_rfl) ?_
    refine y_nil ?_
    refine y_then (hK8 _ _ ?_)
    refine y_block ?_
    refine y_loop (S := Sl × Int) (fun s j => match s with | (b4_4, i5_5) => upd (upd (upd (j) 0 (.string s0_1 : Value)) 4 (.slice b4_4.a b4_4.n b4_4.c : Value)) 5 (.int .i64 i5_5 : Value)) (t15_2, 0) ?_ h ?_
    · dsimp only
      refine upd_id ?_ rfl
      refine upd_id ?_ rfl
      refine upd_id ?_ rfl
      rfl
    rintro KN11 next10 hN11 ⟨b4_4, i5_5⟩ j w_6 h
    unfold F52_l1 at h
    refine y_seq fun K12 hK12 => ?_
    refine y_seq fun K13 hK13 => ?_
    refine y_region ?_
    refine y_k (.int .i64 i5_5 : Value) w_6 rfl rfl rfl (by kernel_rfl) ?_
    refine y_k (.string s0_1 : Value) w_6 rfl rfl rfl (by kernel_rfl) ?_
    refine y_k (.int .i64 ((s0_1.size : Int)) : Value) w_6 rfl rfl rfl (by kernel_rfl) ?_
    refine y_k (.bool (decide (i5_5 < ((s0_1.size : Int)))) : Value) w_6 rfl rfl rfl (by kernel_rfl) ?_
    refine y_nil ?_
    refine y_then (hK13 _ _ ?_)
    refine y_cond (decide (i5_5 < ((s0_1.size : Int)))) rfl rfl (fun hb29 => ?_) (fun hb29 => ?_)
    · replace h := h.1 (of_decide_eq_true hb29)
      refine y_skip ?_
      refine y_then (hK12 _ _ ?_)
      refine y_seq fun K14 hK14 => ?_
      refine y_block ?_
      refine y_seq fun K16 hK16 => ?_
      obtain ⟨w_7, hwd17⟩ : ∃ wd : World, wd = w_6.drew := ⟨_, rfl⟩
      replace h := h _ hwd17
      refine t_region (wd := w_7) [] (by kernel_rfl) hwd17 SF_nil fun Q17 hE17 hp17 hS => ?_
      clear hwd17
      refine t_kw hp17 hS 0 (.string s0_1 : Value) rfl (wanted_none rfl) rfl rfl (by kernel_rfl) (fun _ _ => by kernel_rfl) fun hS => ?_
      refine t_kw hp17 hS 1 (.int .i64 i5_5 : Value) rfl (wanted_none rfl) rfl rfl (by kernel_rfl) (fun _ _ => by kernel_rfl) fun hS => ?_
      obtain ⟨t24_8, hx18, h⟩ := h
      refine t_add ⟨2, [3, 8], fun wx => (Instr.index 9 (.string s0_1 : Value) (.int .i64 i5_5 : Value)).run Try.prog wx = .ok (.int .u8 t24_8 : Value) wx⟩ ?_
      replace hS := SF_on (x := ⟨2, [3, 8], fun wx => (Instr.index 9 (.string s0_1 : Value) (.int .i64 i5_5 : Value)).run Try.prog wx = .ok (.int .u8 t24_8 : Value) wx⟩) hx18 hS
      refine t_v (s := Instr.index 9 (.string s0_1 : Value) (.int .i64 i5_5 : Value)) hp17 hS 2 (.int .u8 t24_8 : Value) rfl (wanted_none rfl) rfl rfl (by kernel_rfl) (by kernel_rfl) (fun _ hw => (Sw.fact (List.Mem.head _) rfl hw)) fun hS => ?_
      refine t_kw hp17 hS 4 (.string s0_1 : Value) rfl (wanted_none rfl) rfl rfl (by kernel_rfl) (fun _ _ => by kernel_rfl) fun hS => ?_
      refine t_kw hp17 hS 5 (.int .i64 i5_5 : Value) rfl (wanted_none rfl) rfl rfl (by kernel_rfl) (fun _ _ => by kernel_rfl) fun hS => ?_
      refine t_kw hp17 hS 6 (.int .i64 (IntKind.i64.wrap (i5_5 + 1)) : Value) rfl (wanted_none rfl) rfl rfl (by kernel_rfl) (fun _ _ => by kernel_rfl) fun hS => ?_
      obtain ⟨t29_9, hx19, h⟩ := h
      refine t_add ⟨7, [8], fun wx => (Instr.index 9 (.string s0_1 : Value) (.int .i64 (IntKind.i64.wrap (i5_5 + 1)) : Value)).run Try.prog wx = .ok (.int .u8 t29_9 : Value) wx⟩ ?_
      replace hS := SF_on (x := ⟨7, [8], fun wx => (Instr.index 9 (.string s0_1 : Value) (.int .i64 (IntKind.i64.wrap (i5_5 + 1)) : Value)).run Try.prog wx = .ok (.int .u8 t29_9 : Value) wx⟩) hx19 hS
      refine t_v (s := Instr.index 9 (.string s0_1 : Value) (.int .i64 (IntKind.i64.wrap (i5_5 + 1)) : Value)) hp17 hS 7 (.int .u8 t29_9 : Value) rfl (wanted_none rfl) rfl rfl (by kernel_rfl) (by kernel_rfl) (fun _ hw => (Sw.fact (List.Mem.head _) rfl hw)) fun hS => ?_
      refine t_call 3 (by kernel_rfl) rfl (wanted_none rfl) rfl rfl (by kernel_rfl) (h.mono ?_)
      rintro _ w_11 ⟨t25_10, rfl, hx20, h⟩
      refine ⟨_, rfl, (SF_on hx20 (SF_off (by kernel_rfl) (by kernel_rfl) SF_nil)), fun hS => ?_⟩
      refine t_call 8 (by kernel_rfl) rfl (wanted_none rfl) rfl rfl (by kernel_rfl) (h.mono ?_)
      rintro _ w_13 ⟨t30_12, rfl, h⟩
      refine ⟨_, rfl, (SF_off (by kernel_rfl) (by kernel_rfl) (SF_off (by kernel_rfl) (by kernel_rfl) SF_nil)), fun hS => ?_⟩
      refine t_kw hp17 hS 9 (.int .i64 t25_10 : Value) rfl (wanted_none rfl) rfl rfl (by kernel_rfl) (fun _ _ => by kernel_rfl) fun hS => ?_
      refine t_kw hp17 hS 10 (.int .i64 t30_12 : Value) rfl (wanted_none rfl) rfl rfl (by kernel_rfl) (fun _ _ => by kernel_rfl) fun hS => ?_
      refine t_done (by kernel_rfl) (hE17 _ _ ?_)
      refine y_then (hK16 _ _ ?_)
      refine y_seq fun K21 hK21 => ?_
      refine y_seq fun K22 hK22 => ?_
      refine y_region ?_
      refine y_k (.int .i64 t25_10 : Value) w_13 rfl rfl rfl (by kernel_rfl) ?_
      refine y_k (.bool (decide (t25_10 < 0)) : Value) w_13 rfl rfl rfl (by kernel_rfl) ?_
      refine y_k (.bool (decide (t25_10 < 0)) : Value) w_13 rfl rfl rfl (by kernel_rfl) ?_
      refine y_fork (decide (t25_10 < 0)) (fun hb23 => ?_) (fun hb23 => ?_)
      · replace h := h.1 (of_decide_eq_true hb23)
        refine y_frame (upd_id (i := 33) (v := .bool true) rfl (congrArg Value.bool hb23)) ?_
        refine y_gno rfl rfl rfl rfl ?_
        refine y_gno rfl rfl rfl rfl ?_
        refine y_k (.bool true : Value) w_13 rfl rfl rfl (by kernel_rfl) ?_
        refine y_nil ?_
        refine y_then (hK22 _ _ ?_)
        refine y_cond_t rfl rfl ?_
        refine y_seq fun K24 hK24 => ?_
        refine y_region ?_
        refine y_k (.slice none 0 0 : Value) w_13 rfl rfl rfl (by kernel_rfl) ?_
        refine y_k (.bool false : Value) w_13 rfl rfl rfl (by kernel_rfl) ?_
        refine y_nil ?_
        refine y_then (hK24 _ _ ?_)
        refine y_ret ?_
        repeat (first | refine e_then_r ?_ | refine e_block_r ?_)
        exact (hQ0 _ _ _ (res2 (v1 := (.slice none 0 0 : Value)) (v2 := (.bool false : Value)) rfl rfl rfl rfl) ⟨_, _, rfl, h⟩).1
      · replace h := h.2 (of_decide_eq_false hb23)
        refine y_frame (upd_id (i := 33) (v := .bool false) rfl (congrArg Value.bool hb23)) ?_
        refine y_gyes rfl rfl rfl ?_
        refine y_k (.int .i64 t30_12 : Value) w_13 rfl rfl rfl (by kernel_rfl) ?_
        refine y_gyes rfl rfl rfl ?_
        refine y_k (.bool (decide (t30_12 < 0)) : Value) w_13 rfl rfl rfl (by kernel_rfl) ?_
        refine y_k (.bool (decide (t30_12 < 0)) : Value) w_13 rfl rfl rfl (by kernel_rfl) ?_
        refine y_nil ?_
        refine y_then (hK22 _ _ ?_)
        refine y_cond (decide (t30_12 < 0)) rfl rfl (fun hb27 => ?_) (fun hb27 => ?_)
        · replace h := h.1 (of_decide_eq_true hb27)
          refine y_seq fun K25 hK25 => ?_
          refine y_region ?_
          refine y_k (.slice none 0 0 : Value) w_13 rfl rfl rfl (by kernel_rfl) ?_
          refine y_k (.bool false : Value) w_13 rfl rfl rfl (by kernel_rfl) ?_
          refine y_nil ?_
          refine y_then (hK25 _ _ ?_)
          refine y_ret ?_
          repeat (first | refine e_then_r ?_ | refine e_block_r ?_)
          exact (hQ0 _ _ _ (res2 (v1 := (.slice none 0 0 : Value)) (v2 := (.bool false : Value)) rfl rfl rfl rfl) ⟨_, _, rfl, h⟩).1
        · replace h := h.2 (of_decide_eq_false hb27)
          refine y_skip ?_
          refine y_then (hK21 _ _ ?_)
          refine y_region ?_
          refine y_k (.slice b4_4.a b4_4.n b4_4.c : Value) w_13 rfl rfl rfl (by kernel_rfl) ?_
          refine y_k (.int .i64 t25_10 : Value) w_13 rfl rfl rfl (by kernel_rfl) ?_
          refine y_k (.int .i64 (IntKind.i64.wrap (16 * t25_10)) : Value) w_13 rfl rfl rfl (by kernel_rfl) ?_
          refine y_k (.int .i64 t30_12 : Value) w_13 rfl rfl rfl (by kernel_rfl) ?_
          refine y_k (.int .i64 (IntKind.i64.wrap ((IntKind.i64.wrap (16 * t25_10)) + t30_12)) : Value) w_13 rfl rfl rfl (by kernel_rfl) ?_
          refine y_k (.int .u8 (IntKind.u8.wrap (IntKind.i64.wrap ((IntKind.i64.wrap (16 * t25_10)) + t30_12))) : Value) w_13 rfl rfl rfl (by kernel_rfl) ?_
          refine y_k (.slice (some ⟨w_13.heap.size, 0, none⟩) 1 1 : Value) (w_13.alloc (.cells #[.int .u8 (IntKind.u8.wrap (IntKind.i64.wrap ((IntKind.i64.wrap (16 * t25_10)) + t30_12)))] 5)) rfl rfl rfl (by kernel_rfl) ?_
          replace h := h _ rfl
          generalize w_13.alloc (.cells #[.int .u8 (IntKind.u8.wrap (IntKind.i64.wrap ((IntKind.i64.wrap (16 * t25_10)) + t30_12)))] 5) = w_14 at h ⊢
          obtain ⟨t44_15, w_16, hx26, h⟩ := h
          refine y_v (s := Builtin.append_ #[33, 33] 33 #[.slice b4_4.a b4_4.n b4_4.c, .slice (some ⟨w_13.heap.size, 0, none⟩) 1 1]) rfl rfl rfl (by kernel_rfl) hx26 ?_
          refine y_k (.slice t44_15.a t44_15.n t44_15.c : Value) w_16 rfl rfl rfl (by kernel_rfl) ?_
          refine y_nil ?_
          refine e_block_n ?_
          refine y_then (hK14 _ _ ?_)
          refine y_region ?_
          refine y_k (.int .i64 i5_5 : Value) w_16 rfl rfl rfl (by kernel_rfl) ?_
          refine y_k (.int .i64 (IntKind.i64.wrap (i5_5 + 2)) : Value) w_16 rfl rfl rfl (by kernel_rfl) ?_
          refine y_k (.int .i64 (IntKind.i64.wrap (i5_5 + 2)) : Value) w_16 rfl rfl rfl (by kernel_rfl) ?_
          refine y_nil ?_
          refine y_then (hN11 (t44_15, IntKind.i64.wrap (i5_5 + 2)) _ _ h ?_)
          dsimp only
          refine upd_id ?_ rfl
          refine upd_id ?_ rfl
          refine upd_id ?_ rfl
          rfl
    · replace h := h.2 (of_decide_eq_false hb29)
      refine y_exit ?_
      repeat (first | refine e_then_x ?_ | refine e_block_y rfl ?_)
      refine e_block_x ?_
      refine y_then (hK7 _ _ ?_)
      refine y_seq fun K28 hK28 => ?_
      refine y_region ?_
      refine y_k (.slice b4_4.a b4_4.n b4_4.c : Value) w_6 rfl rfl rfl (by kernel_rfl) ?_
      refine y_k (.slice b4_4.a b4_4.n b4_4.c : Value) w_6 rfl rfl rfl (by kernel_rfl) ?_
      refine y_k (.bool true : Value) w_6 rfl rfl rfl (by kernel_rfl) ?_
      refine y_nil ?_
      refine y_then (hK28 _ _ ?_)
      refine y_ret ?_
      repeat (first | refine e_then_r ?_ | refine e_block_r ?_)
      exact (hQ0 _ _ _ (res2 (v1 := (.slice b4_4.a b4_4.n b4_4.c : Value)) (v2 := (.bool true : Value)) rfl rfl rfl rfl) ⟨_, _, rfl, h⟩).1

def F53_j3 (i5_3 : Int) (next6 : (Sl × Int) → World → Prop) (out4_13 : Sl) (w_14 : World) : Prop :=
  next6 (out4_13, IntKind.i64.wrap (i5_3 + 1)) w_14
def F53_j2 (out4_2 : Sl) (i5_3 : Int) (next6 : (Sl × Int) → World → Prop) (n6_8 : Int) (w_9 : World) : Prop :=
  ((((Int.tmod i5_3 2)) = 0 →
  ∀ (w_10 : World), w_10 = w_9.alloc (.cells #[.int .u8 (IntKind.u8.wrap (16 * n6_8))] 5) →
  ∃ (t51_11 : Sl), ∃ (w_12 : World), (Builtin.append_ #[33, 33] 33 #[.slice out4_2.a out4_2.n out4_2.c, .slice (some ⟨w_9.heap.size, 0, none⟩) 1 1]).run Try.prog w_10 = .ok (.slice t51_11.a t51_11.n t51_11.c : Value) w_12 ∧
  F53_j3 i5_3 next6 t51_11 w_12) ∧
  (¬ ((Int.tmod i5_3 2)) = 0 →
  (0 : Int) ≤ (IntKind.i64.wrap (Int.tdiv i5_3 2)) ∧ (IntKind.i64.wrap (Int.tdiv i5_3 2)) < (out4_2.n : Int) ∧ ∃ (a_15 : Addr), out4_2.a = some a_15 ∧
  ∃ (t59_16 : Int), w_9.cell? (a_15.add (Int.toNat (IntKind.i64.wrap (Int.tdiv i5_3 2)))) = some (.int .u8 t59_16) ∧
  (0 : Int) ≤ (IntKind.i64.wrap (Int.tdiv i5_3 2)) ∧ (IntKind.i64.wrap (Int.tdiv i5_3 2)) < (out4_2.n : Int) ∧ ∃ (a_17 : Addr), out4_2.a = some a_17 ∧
  HasCell w_9 (a_17.add (Int.toNat (IntKind.i64.wrap (Int.tdiv i5_3 2)))) ∧ ∀ (w_18 : World), w_18 = w_9.setCell (a_17.add (Int.toNat (IntKind.i64.wrap (Int.tdiv i5_3 2)))) (.int .u8 (IntKind.u8.wrap (t59_16 + n6_8)) : Value) →
  F53_j3 i5_3 next6 out4_2 w_18))
def F53_l1 (s0_1 : ByteArray) (K : Sl → Bool → World → Prop) (next6 : (Sl × Int) → World → Prop) : (Sl × Int) → World → Prop := fun (out4_2, i5_3) w_4 =>
  ((i5_3 < ((s0_1.size : Int)) →
  ∃ (t16_5 : Int), (Instr.index 9 (.string s0_1 : Value) (.int .i64 i5_3 : Value)).run Try.prog w_4 = .ok (.int .u8 t16_5 : Value) w_4 ∧
  ((t16_5 ≥ 48 →
  ∃ (t21_6 : Int), (Instr.index 9 (.string s0_1 : Value) (.int .i64 i5_3 : Value)).run Try.prog w_4 = .ok (.int .u8 t21_6 : Value) w_4 ∧
  ((t21_6 ≤ 57 →
  ∃ (t26_7 : Int), (Instr.index 9 (.string s0_1 : Value) (.int .i64 i5_3 : Value)).run Try.prog w_4 = .ok (.int .u8 t26_7 : Value) w_4 ∧
  F53_j2 out4_2 i5_3 next6 (IntKind.u8.wrap (t26_7 - 48)) w_4) ∧
  (¬ (t21_6 ≤ 57) →
  ∃ (t31_19 : Int), (Instr.index 9 (.string s0_1 : Value) (.int .i64 i5_3 : Value)).run Try.prog w_4 = .ok (.int .u8 t31_19 : Value) w_4 ∧
  ((t31_19 ≥ 97 →
  ∃ (t36_20 : Int), (Instr.index 9 (.string s0_1 : Value) (.int .i64 i5_3 : Value)).run Try.prog w_4 = .ok (.int .u8 t36_20 : Value) w_4 ∧
  ((t36_20 ≤ 102 →
  ∃ (t41_21 : Int), (Instr.index 9 (.string s0_1 : Value) (.int .i64 i5_3 : Value)).run Try.prog w_4 = .ok (.int .u8 t41_21 : Value) w_4 ∧
  F53_j2 out4_2 i5_3 next6 (IntKind.u8.wrap ((IntKind.u8.wrap (t41_21 - 97)) + 10)) w_4) ∧
  (¬ (t36_20 ≤ 102) →
  K (⟨none, 0, 0⟩) false w_4))) ∧
  (¬ (t31_19 ≥ 97) →
  K (⟨none, 0, 0⟩) false w_4))))) ∧
  (¬ (t16_5 ≥ 48) →
  ∃ (t31_22 : Int), (Instr.index 9 (.string s0_1 : Value) (.int .i64 i5_3 : Value)).run Try.prog w_4 = .ok (.int .u8 t31_22 : Value) w_4 ∧
  ((t31_22 ≥ 97 →
  ∃ (t36_23 : Int), (Instr.index 9 (.string s0_1 : Value) (.int .i64 i5_3 : Value)).run Try.prog w_4 = .ok (.int .u8 t36_23 : Value) w_4 ∧
  ((t36_23 ≤ 102 →
  ∃ (t41_24 : Int), (Instr.index 9 (.string s0_1 : Value) (.int .i64 i5_3 : Value)).run Try.prog w_4 = .ok (.int .u8 t41_24 : Value) w_4 ∧
  F53_j2 out4_2 i5_3 next6 (IntKind.u8.wrap ((IntKind.u8.wrap (t41_24 - 97)) + 10)) w_4) ∧
  (¬ (t36_23 ≤ 102) →
  K (⟨none, 0, 0⟩) false w_4))) ∧
  (¬ (t31_22 ≥ 97) →
  K (⟨none, 0, 0⟩) false w_4))))) ∧
  (¬ (i5_3 < ((s0_1.size : Int))) →
  ((((Int.tmod ((s0_1.size : Int)) 2)) = 1 →
  K (⟨none, 0, 0⟩) false w_4) ∧
  (¬ ((Int.tmod ((s0_1.size : Int)) 2)) = 1 →
  K out4_2 true w_4))))
/-- turnkey/turnkeyref02.Unhex -/
def F53 (s0_1 : ByteArray) (K : Sl → Bool → World → Prop) (w : World) : Prop :=
  kLoop (F53_l1 s0_1 K) (⟨none, 0, 0⟩, 0) w
set_option maxHeartbeats 4000000 in
set_option maxRecDepth 20000 in
theorem F53_sound (s0_1 : ByteArray) (K : Sl → Bool → World → Prop) (w : World) (h : F53 s0_1 K w) :
    Calls Try.prog 53 #[.string s0_1] w (fun e w1 => ∃ (r0 : Sl), ∃ (r1 : Bool), e = .returned (.tuple #[.slice r0.a r0.n r0.c, .bool r1]) ∧ K r0 r1 w1) := by
  unfold F53 at h
  refine y_enter (n := 68) (args := [.string s0_1]) Try.func53 rfl rfl rfl fun Q0 hQ0 => ?_
  refine y_seq fun K1 hK1 => ?_
  refine y_region ?_
  refine y_k (.slice none 0 0 : Value) w rfl rfl rfl (by kernel_rfl) ?_
  refine y_k (.bool false : Value) w rfl rfl rfl (by kernel_rfl) ?_
  refine y_nil ?_
  refine y_then (hK1 _ _ ?_)
  refine y_seq fun K2 hK2 => ?_
  refine y_region ?_
  refine y_k (.slice none 0 0 : Value) w rfl rfl rfl (by kernel_rfl) ?_
  refine y_nil ?_
  refine y_then (hK2 _ _ ?_)
  refine y_seq fun K3 hK3 => ?_
  refine y_seq fun K4 hK4 => ?_
  refine y_region ?_
  refine y_k (.int .i64 0 : Value) w rfl rfl rfl (by kernel_rfl) ?_
  refine y_nil ?_
  refine y_then (hK4 _ _ ?_)
  refine y_block ?_
  refine y_loop (S := Sl × Int) (fun s j => match s with | (out4_2, i5_3) => upd (upd (upd (j) 0 (.string s0_1 : Value)) 4 (.slice out4_2.a out4_2.n out4_2.c : Value)) 5 (.int .i64 i5_3 : Value)) (⟨none, 0, 0⟩, 0) ?_ h ?_
  · dsimp only
    refine upd_id ?_ rfl
    refine upd_id ?_ rfl
    refine upd_id ?_ rfl
    rfl
  rintro KN7 next6 hN7 ⟨out4_2, i5_3⟩ j w_4 h
  unfold F53_l1 at h
  refine y_seq fun K8 hK8 => ?_
  refine y_seq fun K9 hK9 => ?_
  refine y_region ?_
  refine y_k (.int .i64 i5_3 : Value) w_4 rfl rfl rfl (by kernel_rfl) ?_
  refine y_k (.string s0_1 : Value) w_4 rfl rfl rfl (by kernel_rfl) ?_
  refine y_k (.int .i64 ((s0_1.size : Int)) : Value) w_4 rfl rfl rfl (by kernel_rfl) ?_
  refine y_k (.bool (decide (i5_3 < ((s0_1.size : Int)))) : Value) w_4 rfl rfl rfl (by kernel_rfl) ?_
  refine y_nil ?_
  refine y_then (hK9 _ _ ?_)
  refine y_cond (decide (i5_3 < ((s0_1.size : Int)))) rfl rfl (fun hb49 => ?_) (fun hb49 => ?_)
  · replace h := h.1 (of_decide_eq_true hb49)
    refine y_skip ?_
    refine y_then (hK8 _ _ ?_)
    refine y_seq fun K10 hK10 => ?_
    have hjK10 : ∀ (f : Fr) (out4_13 : Sl) (w_14 : World), f 0 = (.string s0_1 : Value) → f 4 = (.slice out4_13.a out4_13.n out4_13.c : Value) → f 5 = (.int .i64 i5_3 : Value) → F53_j3 i5_3 next6 out4_13 w_14 → WK K10 68 f w_14 := by
      intro f out4_13 w_14 e0 e4 e5 h
      refine y_atf (upd_id (upd_id (upd_id rfl e0) e4) e5) ?_
      clear e0 e4 e5
      unfold F53_j3 at h
      refine hK10 _ _ ?_
      refine y_region ?_
      refine y_k (.int .i64 i5_3 : Value) w_14 rfl rfl rfl (by kernel_rfl) ?_
      refine y_k (.int .i64 (IntKind.i64.wrap (i5_3 + 1)) : Value) w_14 rfl rfl rfl (by kernel_rfl) ?_
      refine y_k (.int .i64 (IntKind.i64.wrap (i5_3 + 1)) : Value) w_14 rfl rfl rfl (by kernel_rfl) ?_
      refine y_nil ?_
      refine y_then (hN7 (out4_13, IntKind.i64.wrap (i5_3 + 1)) _ _ h ?_)
      dsimp only
      refine upd_id ?_ rfl
      refine upd_id ?_ rfl
      refine upd_id ?_ rfl
      rfl
    refine y_block ?_
    refine y_seq fun K12 hK12 => ?_
    refine y_region ?_
    refine y_k (.int .u8 0 : Value) w_4 rfl rfl rfl (by kernel_rfl) ?_
    refine y_nil ?_
    refine y_then (hK12 _ _ ?_)
    refine y_seq fun K13 hK13 => ?_
    have hjK13 : ∀ (f : Fr) (n6_8 : Int) (w_9 : World), f 0 = (.string s0_1 : Value) → f 4 = (.slice out4_2.a out4_2.n out4_2.c : Value) → f 5 = (.int .i64 i5_3 : Value) → f 6 = (.int .u8 n6_8 : Value) → F53_j2 out4_2 i5_3 next6 n6_8 w_9 → WK K13 68 f w_9 := by
      intro f n6_8 w_9 e0 e4 e5 e6 h
      refine y_atf (upd_id (upd_id (upd_id (upd_id rfl e0) e4) e5) e6) ?_
      clear e0 e4 e5 e6
      unfold F53_j2 at h
      refine hK13 _ _ ?_
      refine y_seq fun K20 hK20 => ?_
      refine y_region ?_
      refine y_k (.int .i64 i5_3 : Value) w_9 rfl rfl rfl (by kernel_rfl) ?_
      refine y_k (.int .i64 (Int.tmod i5_3 2) : Value) w_9 rfl rfl rfl (by kernel_rfl) ?_
      refine y_k (.bool ((((Int.tmod i5_3 2)) == 0)) : Value) w_9 rfl rfl rfl (by kernel_rfl) ?_
      refine y_nil ?_
      refine y_then (hK20 _ _ ?_)
      refine y_cond ((((Int.tmod i5_3 2)) == 0)) rfl rfl (fun hb26 => ?_) (fun hb26 => ?_)
      · replace h := h.1 (eq_of_beq hb26)
        refine y_region ?_
        refine y_k (.slice out4_2.a out4_2.n out4_2.c : Value) w_9 rfl rfl rfl (by kernel_rfl) ?_
        refine y_k (.int .u8 n6_8 : Value) w_9 rfl rfl rfl (by kernel_rfl) ?_
        refine y_k (.int .u8 (IntKind.u8.wrap (16 * n6_8)) : Value) w_9 rfl rfl rfl (by kernel_rfl) ?_
        refine y_k (.slice (some ⟨w_9.heap.size, 0, none⟩) 1 1 : Value) (w_9.alloc (.cells #[.int .u8 (IntKind.u8.wrap (16 * n6_8))] 5)) rfl rfl rfl (by kernel_rfl) ?_
        replace h := h _ rfl
        generalize w_9.alloc (.cells #[.int .u8 (IntKind.u8.wrap (16 * n6_8))] 5) = w_10 at h ⊢
        obtain ⟨t51_11, w_12, hx21, h⟩ := h
        refine y_v (s := Builtin.append_ #[33, 33] 33 #[.slice out4_2.a out4_2.n out4_2.c, .slice (some ⟨w_9.heap.size, 0, none⟩) 1 1]) rfl rfl rfl (by kernel_rfl) hx21 ?_
        refine y_k (.slice t51_11.a t51_11.n t51_11.c : Value) w_12 rfl rfl rfl (by kernel_rfl) ?_
        refine y_nil ?_
        refine e_block_n ?_
        exact y_then (hjK10 _ t51_11 w_12 rfl rfl rfl h)
      · replace h := h.2 (beq_eq_false_iff_ne.mp hb26)
        refine y_region ?_
        refine y_k (.slice out4_2.a out4_2.n out4_2.c : Value) w_9 rfl rfl rfl (by kernel_rfl) ?_
        refine y_k (.int .i64 i5_3 : Value) w_9 rfl rfl rfl (by kernel_rfl) ?_
        refine y_k (.int .i64 (IntKind.i64.wrap (Int.tdiv i5_3 2)) : Value) w_9 rfl rfl rfl (by kernel_rfl) ?_
        refine y_k (.slice out4_2.a out4_2.n out4_2.c : Value) w_9 rfl rfl rfl (by kernel_rfl) ?_
        refine y_k (.int .i64 i5_3 : Value) w_9 rfl rfl rfl (by kernel_rfl) ?_
        refine y_k (.int .i64 (IntKind.i64.wrap (Int.tdiv i5_3 2)) : Value) w_9 rfl rfl rfl (by kernel_rfl) ?_
        obtain ⟨hx22a, hx22b, a_15, hx22, h⟩ := h
        refine y_v (v := (.pointer (some (a_15.add (Int.toNat (IntKind.i64.wrap (Int.tdiv i5_3 2))))) : Value)) (s := Instr.indexAt 33 (.slice out4_2.a out4_2.n out4_2.c : Value) (.int .i64 (IntKind.i64.wrap (Int.tdiv i5_3 2)) : Value)) rfl rfl rfl (by kernel_rfl) (run_ixs1 (el := 5) (by kernel_rfl) (by kernel_rfl) hx22 hx22a hx22b) ?_
        obtain ⟨t59_16, hx23, h⟩ := h
        refine y_v (s := Instr.loadAt 5 (.pointer (some (a_15.add (Int.toNat (IntKind.i64.wrap (Int.tdiv i5_3 2))))))) rfl rfl rfl (by kernel_rfl) (rn_load (by kernel_rfl) hx23) ?_
        refine y_k (.int .u8 n6_8 : Value) w_9 rfl rfl rfl (by kernel_rfl) ?_
        refine y_k (.int .u8 (IntKind.u8.wrap (t59_16 + n6_8)) : Value) w_9 rfl rfl rfl (by kernel_rfl) ?_
        obtain ⟨hx24a, hx24b, a_17, hx24, h⟩ := h
        refine y_v (v := (.pointer (some (a_17.add (Int.toNat (IntKind.i64.wrap (Int.tdiv i5_3 2))))) : Value)) (s := Instr.indexAt 33 (.slice out4_2.a out4_2.n out4_2.c : Value) (.int .i64 (IntKind.i64.wrap (Int.tdiv i5_3 2)) : Value)) rfl rfl rfl (by kernel_rfl) (run_ixs1 (el := 5) (by kernel_rfl) (by kernel_rfl) hx24 hx24a hx24b) ?_
        obtain ⟨hx25, h⟩ := h
        replace h := h _ rfl
        refine y_u (s := Instr.storeAt 5 (.pointer (some (a_17.add (Int.toNat (IntKind.i64.wrap (Int.tdiv i5_3 2)))))) (.int .u8 (IntKind.u8.wrap (t59_16 + n6_8)) : Value)) rfl rfl (by kernel_rfl) (rn_store1 (by kernel_rfl) rfl hx25) ?_
        generalize w_9.setCell (a_17.add (Int.toNat (IntKind.i64.wrap (Int.tdiv i5_3 2)))) (.int .u8 (IntKind.u8.wrap (t59_16 + n6_8)) : Value) = w_18 at h ⊢
        refine y_nil ?_
        refine e_block_n ?_
        exact y_then (hjK10 _ out4_2 w_18 rfl rfl rfl h)
    refine y_block ?_
    refine y_seq fun K15 hK15 => ?_
    refine y_region ?_
    refine y_k (.string s0_1 : Value) w_4 rfl rfl rfl (by kernel_rfl) ?_
    refine y_k (.int .i64 i5_3 : Value) w_4 rfl rfl rfl (by kernel_rfl) ?_
    obtain ⟨t16_5, hx16, h⟩ := h
    refine y_v (s := Instr.index 9 (.string s0_1 : Value) (.int .i64 i5_3 : Value)) rfl rfl rfl (by kernel_rfl) (hx16) ?_
    refine y_k (.bool (decide (t16_5 ≥ 48)) : Value) w_4 rfl rfl rfl (by kernel_rfl) ?_
    refine y_k (.bool (decide (t16_5 ≥ 48)) : Value) w_4 rfl rfl rfl (by kernel_rfl) ?_
    refine y_fork (decide (t16_5 ≥ 48)) (fun hb17 => ?_) (fun hb17 => ?_)
    · replace h := h.1 (of_decide_eq_true hb17)
      refine y_frame (upd_id (i := 18) (v := .bool true) rfl (congrArg Value.bool hb17)) ?_
      refine y_gyes rfl rfl rfl ?_
      refine y_k (.string s0_1 : Value) w_4 rfl rfl rfl (by kernel_rfl) ?_
      refine y_gyes rfl rfl rfl ?_
      refine y_k (.int .i64 i5_3 : Value) w_4 rfl rfl rfl (by kernel_rfl) ?_
      refine y_gyes rfl rfl rfl ?_
      obtain ⟨t21_6, hx18, h⟩ := h
      refine y_v (s := Instr.index 9 (.string s0_1 : Value) (.int .i64 i5_3 : Value)) rfl rfl rfl (by kernel_rfl) (hx18) ?_
      refine y_gyes rfl rfl rfl ?_
      refine y_k (.bool (decide (t21_6 ≤ 57)) : Value) w_4 rfl rfl rfl (by kernel_rfl) ?_
      refine y_k (.bool (decide (t21_6 ≤ 57)) : Value) w_4 rfl rfl rfl (by kernel_rfl) ?_
      refine y_k (.bool (decide (t21_6 ≤ 57)) : Value) w_4 rfl rfl rfl (by kernel_rfl) ?_
      refine y_nil ?_
      refine y_then (hK15 _ _ ?_)
      refine y_cond (decide (t21_6 ≤ 57)) rfl rfl (fun hb35 => ?_) (fun hb35 => ?_)
      · replace h := h.1 (of_decide_eq_true hb35)
        refine y_region ?_
        refine y_k (.string s0_1 : Value) w_4 rfl rfl rfl (by kernel_rfl) ?_
        refine y_k (.int .i64 i5_3 : Value) w_4 rfl rfl rfl (by kernel_rfl) ?_
        obtain ⟨t26_7, hx19, h⟩ := h
        refine y_v (s := Instr.index 9 (.string s0_1 : Value) (.int .i64 i5_3 : Value)) rfl rfl rfl (by kernel_rfl) (hx19) ?_
        refine y_k (.int .u8 (IntKind.u8.wrap (t26_7 - 48)) : Value) w_4 rfl rfl rfl (by kernel_rfl) ?_
        refine y_k (.int .u8 (IntKind.u8.wrap (t26_7 - 48)) : Value) w_4 rfl rfl rfl (by kernel_rfl) ?_
        refine y_nil ?_
        refine e_block_n ?_
        exact y_then (hjK13 _ (IntKind.u8.wrap (t26_7 - 48)) w_4 rfl rfl rfl rfl h)
      · replace h := h.2 (of_decide_eq_false hb35)
        refine y_seq fun K27 hK27 => ?_
        refine y_region ?_
        refine y_k (.string s0_1 : Value) w_4 rfl rfl rfl (by kernel_rfl) ?_
        refine y_k (.int .i64 i5_3 : Value) w_4 rfl rfl rfl (by kernel_rfl) ?_
        obtain ⟨t31_19, hx28, h⟩ := h
        refine y_v (s := Instr.index 9 (.string s0_1 : Value) (.int .i64 i5_3 : Value)) rfl rfl rfl (by kernel_rfl) (hx28) ?_
        refine y_k (.bool (decide (t31_19 ≥ 97)) : Value) w_4 rfl rfl rfl (by kernel_rfl) ?_
        refine y_k (.bool (decide (t31_19 ≥ 97)) : Value) w_4 rfl rfl rfl (by kernel_rfl) ?_
        refine y_fork (decide (t31_19 ≥ 97)) (fun hb29 => ?_) (fun hb29 => ?_)
        · replace h := h.1 (of_decide_eq_true hb29)
          refine y_frame (upd_id (i := 33) (v := .bool true) rfl (congrArg Value.bool hb29)) ?_
          refine y_gyes rfl rfl rfl ?_
          refine y_k (.string s0_1 : Value) w_4 rfl rfl rfl (by kernel_rfl) ?_
          refine y_gyes rfl rfl rfl ?_
          refine y_k (.int .i64 i5_3 : Value) w_4 rfl rfl rfl (by kernel_rfl) ?_
          refine y_gyes rfl rfl rfl ?_
          obtain ⟨t36_20, hx30, h⟩ := h
          refine y_v (s := Instr.index 9 (.string s0_1 : Value) (.int .i64 i5_3 : Value)) rfl rfl rfl (by kernel_rfl) (hx30) ?_
          refine y_gyes rfl rfl rfl ?_
          refine y_k (.bool (decide (t36_20 ≤ 102)) : Value) w_4 rfl rfl rfl (by kernel_rfl) ?_
          refine y_k (.bool (decide (t36_20 ≤ 102)) : Value) w_4 rfl rfl rfl (by kernel_rfl) ?_
          refine y_k (.bool (decide (t36_20 ≤ 102)) : Value) w_4 rfl rfl rfl (by kernel_rfl) ?_
          refine y_nil ?_
          refine y_then (hK27 _ _ ?_)
          refine y_cond (decide (t36_20 ≤ 102)) rfl rfl (fun hb33 => ?_) (fun hb33 => ?_)
          · replace h := h.1 (of_decide_eq_true hb33)
            refine y_region ?_
            refine y_k (.string s0_1 : Value) w_4 rfl rfl rfl (by kernel_rfl) ?_
            refine y_k (.int .i64 i5_3 : Value) w_4 rfl rfl rfl (by kernel_rfl) ?_
            obtain ⟨t41_21, hx31, h⟩ := h
            refine y_v (s := Instr.index 9 (.string s0_1 : Value) (.int .i64 i5_3 : Value)) rfl rfl rfl (by kernel_rfl) (hx31) ?_
            refine y_k (.int .u8 (IntKind.u8.wrap (t41_21 - 97)) : Value) w_4 rfl rfl rfl (by kernel_rfl) ?_
            refine y_k (.int .u8 (IntKind.u8.wrap ((IntKind.u8.wrap (t41_21 - 97)) + 10)) : Value) w_4 rfl rfl rfl (by kernel_rfl) ?_
            refine y_k (.int .u8 (IntKind.u8.wrap ((IntKind.u8.wrap (t41_21 - 97)) + 10)) : Value) w_4 rfl rfl rfl (by kernel_rfl) ?_
            refine y_nil ?_
            refine e_block_n ?_
            exact y_then (hjK13 _ (IntKind.u8.wrap ((IntKind.u8.wrap (t41_21 - 97)) + 10)) w_4 rfl rfl rfl rfl h)
          · replace h := h.2 (of_decide_eq_false hb33)
            refine y_seq fun K32 hK32 => ?_
            refine y_region ?_
            refine y_k (.slice none 0 0 : Value) w_4 rfl rfl rfl (by kernel_rfl) ?_
            refine y_k (.bool false : Value) w_4 rfl rfl rfl (by kernel_rfl) ?_
            refine y_nil ?_
            refine y_then (hK32 _ _ ?_)
            refine y_ret ?_
            repeat (first | refine e_then_r ?_ | refine e_block_r ?_)
            exact (hQ0 _ _ _ (res2 (v1 := (.slice none 0 0 : Value)) (v2 := (.bool false : Value)) rfl rfl rfl rfl) ⟨_, _, rfl, h⟩).1
        · replace h := h.2 (of_decide_eq_false hb29)
          refine y_frame (upd_id (i := 33) (v := .bool false) rfl (congrArg Value.bool hb29)) ?_
          refine y_gno rfl rfl rfl rfl ?_
          refine y_gno rfl rfl rfl rfl ?_
          refine y_gno rfl rfl rfl rfl ?_
          refine y_gno rfl rfl rfl rfl ?_
          refine y_k (.bool false : Value) w_4 rfl rfl rfl (by kernel_rfl) ?_
          refine y_k (.bool false : Value) w_4 rfl rfl rfl (by kernel_rfl) ?_
          refine y_nil ?_
          refine y_then (hK27 _ _ ?_)
          refine y_cond_f rfl rfl ?_
          refine y_seq fun K34 hK34 => ?_
          refine y_region ?_
          refine y_k (.slice none 0 0 : Value) w_4 rfl rfl rfl (by kernel_rfl) ?_
          refine y_k (.bool false : Value) w_4 rfl rfl rfl (by kernel_rfl) ?_
          refine y_nil ?_
          refine y_then (hK34 _ _ ?_)
          refine y_ret ?_
          repeat (first | refine e_then_r ?_ | refine e_block_r ?_)
          exact (hQ0 _ _ _ (res2 (v1 := (.slice none 0 0 : Value)) (v2 := (.bool false : Value)) rfl rfl rfl rfl) ⟨_, _, rfl, h⟩).1
    · replace h := h.2 (of_decide_eq_false hb17)
      refine y_frame (upd_id (i := 18) (v := .bool false) rfl (congrArg Value.bool hb17)) ?_
      refine y_gno rfl rfl rfl rfl ?_
      refine y_gno rfl rfl rfl rfl ?_
      refine y_gno rfl rfl rfl rfl ?_
      refine y_gno rfl rfl rfl rfl ?_
      refine y_k (.bool false : Value) w_4 rfl rfl rfl (by kernel_rfl) ?_
      refine y_k (.bool false : Value) w_4 rfl rfl rfl (by kernel_rfl) ?_
      refine y_nil ?_
      refine y_then (hK15 _ _ ?_)
      refine y_cond_f rfl rfl ?_
      refine y_seq fun K36 hK36 => ?_
      refine y_region ?_
      refine y_k (.string s0_1 : Value) w_4 rfl rfl rfl (by kernel_rfl) ?_
      refine y_k (.int .i64 i5_3 : Value) w_4 rfl rfl rfl (by kernel_rfl) ?_
      obtain ⟨t31_22, hx37, h⟩ := h
      refine y_v (s := Instr.index 9 (.string s0_1 : Value) (.int .i64 i5_3 : Value)) rfl rfl rfl (by kernel_rfl) (hx37) ?_
      refine y_k (.bool (decide (t31_22 ≥ 97)) : Value) w_4 rfl rfl rfl (by kernel_rfl) ?_
      refine y_k (.bool (decide (t31_22 ≥ 97)) : Value) w_4 rfl rfl rfl (by kernel_rfl) ?_
      refine y_fork (decide (t31_22 ≥ 97)) (fun hb38 => ?_) (fun hb38 => ?_)
      · replace h := h.1 (of_decide_eq_true hb38)
        refine y_frame (upd_id (i := 33) (v := .bool true) rfl (congrArg Value.bool hb38)) ?_
        refine y_gyes rfl rfl rfl ?_
        refine y_k (.string s0_1 : Value) w_4 rfl rfl rfl (by kernel_rfl) ?_
        refine y_gyes rfl rfl rfl ?_
        refine y_k (.int .i64 i5_3 : Value) w_4 rfl rfl rfl (by kernel_rfl) ?_
        refine y_gyes rfl rfl rfl ?_
        obtain ⟨t36_23, hx39, h⟩ := h
        refine y_v (s := Instr.index 9 (.string s0_1 : Value) (.int .i64 i5_3 : Value)) rfl rfl rfl (by kernel_rfl) (hx39) ?_
        refine y_gyes rfl rfl rfl ?_
        refine y_k (.bool (decide (t36_23 ≤ 102)) : Value) w_4 rfl rfl rfl (by kernel_rfl) ?_
        refine y_k (.bool (decide (t36_23 ≤ 102)) : Value) w_4 rfl rfl rfl (by kernel_rfl) ?_
        refine y_k (.bool (decide (t36_23 ≤ 102)) : Value) w_4 rfl rfl rfl (by kernel_rfl) ?_
        refine y_nil ?_
        refine y_then (hK36 _ _ ?_)
        refine y_cond (decide (t36_23 ≤ 102)) rfl rfl (fun hb42 => ?_) (fun hb42 => ?_)
        · replace h := h.1 (of_decide_eq_true hb42)
          refine y_region ?_
          refine y_k (.string s0_1 : Value) w_4 rfl rfl rfl (by kernel_rfl) ?_
          refine y_k (.int .i64 i5_3 : Value) w_4 rfl rfl rfl (by kernel_rfl) ?_
          obtain ⟨t41_24, hx40, h⟩ := h
          refine y_v (s := Instr.index 9 (.string s0_1 : Value) (.int .i64 i5_3 : Value)) rfl rfl rfl (by kernel_rfl) (hx40) ?_
          refine y_k (.int .u8 (IntKind.u8.wrap (t41_24 - 97)) : Value) w_4 rfl rfl rfl (by kernel_rfl) ?_
          refine y_k (.int .u8 (IntKind.u8.wrap ((IntKind.u8.wrap (t41_24 - 97)) + 10)) : Value) w_4 rfl rfl rfl (by kernel_rfl) ?_
          refine y_k (.int .u8 (IntKind.u8.wrap ((IntKind.u8.wrap (t41_24 - 97)) + 10)) : Value) w_4 rfl rfl rfl (by kernel_rfl) ?_
          refine y_nil ?_
          refine e_block_n ?_
          exact y_then (hjK13 _ (IntKind.u8.wrap ((IntKind.u8.wrap (t41_24 - 97)) + 10)) w_4 rfl rfl rfl rfl h)
        · replace h := h.2 (of_decide_eq_false hb42)
          refine y_seq fun K41 hK41 => ?_
          refine y_region ?_
          refine y_k (.slice none 0 0 : Value) w_4 rfl rfl rfl (by kernel_rfl) ?_
          refine y_k (.bool false : Value) w_4 rfl rfl rfl (by kernel_rfl) ?_
          refine y_nil ?_
          refine y_then (hK41 _ _ ?_)
          refine y_ret ?_
          repeat (first | refine e_then_r ?_ | refine e_block_r ?_)
          exact (hQ0 _ _ _ (res2 (v1 := (.slice none 0 0 : Value)) (v2 := (.bool false : Value)) rfl rfl rfl rfl) ⟨_, _, rfl, h⟩).1
      · replace h := h.2 (of_decide_eq_false hb38)
        refine y_frame (upd_id (i := 33) (v := .bool false) rfl (congrArg Value.bool hb38)) ?_
        refine y_gno rfl rfl rfl rfl ?_
        refine y_gno rfl rfl rfl rfl ?_
        refine y_gno rfl rfl rfl rfl ?_
        refine y_gno rfl rfl rfl rfl ?_
        refine y_k (.bool false : Value) w_4 rfl rfl rfl (by kernel_rfl) ?_
        refine y_k (.bool false : Value) w_4 rfl rfl rfl (by kernel_rfl) ?_
        refine y_nil ?_
        refine y_then (hK36 _ _ ?_)
        refine y_cond_f rfl rfl ?_
        refine y_seq fun K43 hK43 => ?_
        refine y_region ?_
        refine y_k (.slice none 0 0 : Value) w_4 rfl rfl rfl (by kernel_rfl) ?_
        refine y_k (.bool false : Value) w_4 rfl rfl rfl (by kernel_rfl) ?_
        refine y_nil ?_
        refine y_then (hK43 _ _ ?_)
        refine y_ret ?_
        repeat (first | refine e_then_r ?_ | refine e_block_r ?_)
        exact (hQ0 _ _ _ (res2 (v1 := (.slice none 0 0 : Value)) (v2 := (.bool false : Value)) rfl rfl rfl rfl) ⟨_, _, rfl, h⟩).1
  · replace h := h.2 (of_decide_eq_false hb49)
    refine y_exit ?_
    repeat (first | refine e_then_x ?_ | refine e_block_y rfl ?_)
    refine e_block_x ?_
    refine y_then (hK3 _ _ ?_)
    refine y_seq fun K44 hK44 => ?_
    refine y_seq fun K45 hK45 => ?_
    refine y_region ?_
    refine y_k (.string s0_1 : Value) w_4 rfl rfl rfl (by kernel_rfl) ?_
    refine y_k (.int .i64 ((s0_1.size : Int)) : Value) w_4 rfl rfl rfl (by kernel_rfl) ?_
    refine y_k (.int .i64 (Int.tmod ((s0_1.size : Int)) 2) : Value) w_4 rfl rfl rfl (by kernel_rfl) ?_
    refine y_k (.bool ((((Int.tmod ((s0_1.size : Int)) 2)) == 1)) : Value) w_4 rfl rfl rfl (by kernel_rfl) ?_
    refine y_nil ?_
    refine y_then (hK45 _ _ ?_)
    refine y_cond ((((Int.tmod ((s0_1.size : Int)) 2)) == 1)) rfl rfl (fun hb48 => ?_) (fun hb48 => ?_)
    · replace h := h.1 (eq_of_beq hb48)
      refine y_seq fun K46 hK46 => ?_
      refine y_region ?_
      refine y_k (.slice none 0 0 : Value) w_4 rfl rfl rfl (by kernel_rfl) ?_
      refine y_k (.bool false : Value) w_4 rfl rfl rfl (by kernel_rfl) ?_
      refine y_nil ?_
      refine y_then (hK46 _ _ ?_)
      refine y_ret ?_
      repeat (first | refine e_then_r ?_ | refine e_block_r ?_)
      exact (hQ0 _ _ _ (res2 (v1 := (.slice none 0 0 : Value)) (v2 := (.bool false : Value)) rfl rfl rfl rfl) ⟨_, _, rfl, h⟩).1
    · replace h := h.2 (beq_eq_false_iff_ne.mp hb48)
      refine y_skip ?_
      refine y_then (hK44 _ _ ?_)
      refine y_seq fun K47 hK47 => ?_
      refine y_region ?_
      refine y_k (.slice out4_2.a out4_2.n out4_2.c : Value) w_4 rfl rfl rfl (by kernel_rfl) ?_
      refine y_k (.slice out4_2.a out4_2.n out4_2.c : Value) w_4 rfl rfl rfl (by kernel_rfl) ?_
      refine y_k (.bool true : Value) w_4 rfl rfl rfl (by kernel_rfl) ?_
      refine y_nil ?_
      refine y_then (hK47 _ _ ?_)
      refine y_ret ?_
      repeat (first | refine e_then_r ?_ | refine e_block_r ?_)
      exact (hQ0 _ _ _ (res2 (v1 := (.slice out4_2.a out4_2.n out4_2.c : Value)) (v2 := (.bool true : Value)) rfl rfl rfl rfl) ⟨_, _, rfl, h⟩).1

def F54_l1 (b0_1 : Sl) (K : ByteArray → World → Prop) (next6 : (Sl × Int) → World → Prop) : (Sl × Int) → World → Prop := fun (out3_2, i4_3) w_4 =>
  ((i4_3 < ((b0_1.n : Int)) →
  ∀ (w_5 : World), w_5 = w_4.drew →
  (0 : Int) ≤ i4_3 ∧ i4_3 < (b0_1.n : Int) ∧ ∃ (a_6 : Addr), b0_1.a = some a_6 ∧
  ∃ (t15_7 : Int), w_5.cell? (a_6.add (Int.toNat i4_3)) = some (.int .u8 t15_7) ∧
  ∃ (t17_8 : Int), (Instr.index 9 (.string ((ByteArray.mk #[48, 49, 50, 51, 52, 53, 54, 55, 56, 57, 97, 98, 99, 100, 101, 102])) : Value) (.int .u8 (IntKind.u8.wrap (Int.tdiv t15_7 16)) : Value)).run Try.prog w_5 = .ok (.int .u8 t17_8 : Value) w_5 ∧
  (0 : Int) ≤ i4_3 ∧ i4_3 < (b0_1.n : Int) ∧ ∃ (a_9 : Addr), b0_1.a = some a_9 ∧
  ∃ (t21_10 : Int), w_5.cell? (a_9.add (Int.toNat i4_3)) = some (.int .u8 t21_10) ∧
  ∃ (t23_11 : Int), (Instr.index 9 (.string ((ByteArray.mk #[48, 49, 50, 51, 52, 53, 54, 55, 56, 57, 97, 98, 99, 100, 101, 102])) : Value) (.int .u8 (Int.tmod t21_10 16) : Value)).run Try.prog w_5 = .ok (.int .u8 t23_11 : Value) w_5 ∧
  ∀ (w_12 : World), w_12 = w_5.alloc (.cells #[.int .u8 t17_8, .int .u8 t23_11] 5) → 
  ∃ (t25_13 : Sl), ∃ (w_14 : World), (Builtin.append_ #[33, 33] 33 #[.slice out3_2.a out3_2.n out3_2.c, .slice (some ⟨w_5.heap.size, 0, none⟩) 2 2]).run Try.prog w_12 = .ok (.slice t25_13.a t25_13.n t25_13.c : Value) w_14 ∧ 
  next6 (t25_13, IntKind.i64.wrap (i4_3 + 1)) w_14) ∧
  (¬ (i4_3 < ((b0_1.n : Int))) →
  ∃ (t27_15 : ByteArray), (convert 33 9 (.slice out3_2.a out3_2.n out3_2.c : Value)).run Try.prog w_4 = .ok (.string t27_15 : Value) w_4 ∧
  K t27_15 w_4))
/-- turnkey/turnkeyref02.Hex -/
def F54 (b0_1 : Sl) (K : ByteArray → World → Prop) (w : World) : Prop :=
  kLoop (F54_l1 b0_1 K) (⟨none, 0, 0⟩, 0) w
set_option maxHeartbeats 4000000 in
set_option maxRecDepth 20000 in
theorem F54_sound (b0_1 : Sl) (K : ByteArray → World → Prop) (w : World) (h : F54 b0_1 K w) :
    Calls Try.prog 54 #[.slice b0_1.a b0_1.n b0_1.c] w (fun e w1 => ∃ (r0 : ByteArray), e = .returned (.string r0 : Value) ∧ K r0 w1) := by
  unfold F54 at h
  refine y_enter (n := 28) (args := [.slice b0_1.a b0_1.n b0_1.c]) Try.func54 rfl rfl rfl fun Q0 hQ0 => ?_
  refine y_seq fun K1 hK1 => ?_
  refine y_region ?_
  refine y_k (.string ((ByteArray.mk #[])) : Value) w rfl rfl rfl (by kernel_rfl) ?_
  refine y_nil ?_
  refine y_then (hK1 _ _ ?_)
  refine y_seq fun K2 hK2 => ?_
  refine y_region ?_
  refine y_k (.slice none 0 0 : Value) w rfl rfl rfl (by kernel_rfl) ?_
  refine y_nil ?_
  refine y_then (hK2 _ _ ?_)
  refine y_seq fun K3 hK3 => ?_
  refine y_seq fun K4 hK4 => ?_
  refine y_region ?_
  refine y_k (.int .i64 0 : Value) w rfl rfl rfl (by kernel_rfl) ?_
  refine y_nil ?_
  refine y_then (hK4 _ _ ?_)
  refine y_block ?_
  refine y_loop (S := Sl × Int) (fun s j => match s with | (out3_2, i4_3) => upd (upd (upd (j) 0 (.slice b0_1.a b0_1.n b0_1.c : Value)) 3 (.slice out3_2.a out3_2.n out3_2.c : Value)) 4 (.int .i64 i4_3 : Value)) (⟨none, 0, 0⟩, 0) ?_ h ?_
  · dsimp only
    refine upd_id ?_ rfl
    refine upd_id ?_ rfl
    refine upd_id ?_ rfl
    rfl
  rintro KN7 next6 hN7 ⟨out3_2, i4_3⟩ j w_4 h
  unfold F54_l1 at h
  refine y_seq fun K8 hK8 => ?_
  refine y_seq fun K9 hK9 => ?_
  refine y_region ?_
  refine y_k (.int .i64 i4_3 : Value) w_4 rfl rfl rfl (by kernel_rfl) ?_
  refine y_k (.slice b0_1.a b0_1.n b0_1.c : Value) w_4 rfl rfl rfl (by kernel_rfl) ?_
  refine y_k (.int .i64 ((b0_1.n : Int)) : Value) w_4 rfl rfl rfl (by kernel_rfl) ?_
  refine y_k (.bool (decide (i4_3 < ((b0_1.n : Int)))) : Value) w_4 rfl rfl rfl (by kernel_rfl) ?_
  refine y_nil ?_
  refine y_then (hK9 _ _ ?_)
  refine y_cond (decide (i4_3 < ((b0_1.n : Int)))) rfl rfl (fun hb22 => ?_) (fun hb22 => ?_)
  · replace h := h.1 (of_decide_eq_true hb22)
    refine y_skip ?_
    refine y_then (hK8 _ _ ?_)
    refine y_seq fun K10 hK10 => ?_
    refine y_block ?_
    obtain ⟨w_5, hwd12⟩ : ∃ wd : World, wd = w_4.drew := ⟨_, rfl⟩
    replace h := h _ hwd12
    refine t_region (wd := w_5) [] (by kernel_rfl) hwd12 SF_nil fun Q12 hE12 hp12 hS => ?_
    clear hwd12
    refine t_kw hp12 hS 0 (.slice out3_2.a out3_2.n out3_2.c : Value) rfl (wanted_none rfl) rfl rfl (by kernel_rfl) (fun _ _ => by kernel_rfl) fun hS => ?_
    refine t_kw hp12 hS 1 (.slice b0_1.a b0_1.n b0_1.c : Value) rfl (wanted_none rfl) rfl rfl (by kernel_rfl) (fun _ _ => by kernel_rfl) fun hS => ?_
    refine t_kw hp12 hS 2 (.int .i64 i4_3 : Value) rfl (wanted_none rfl) rfl rfl (by kernel_rfl) (fun _ _ => by kernel_rfl) fun hS => ?_
    obtain ⟨hx13a, hx13b, a_6, hx13, h⟩ := h
    refine t_v (s := Instr.indexAt 33 (.slice b0_1.a b0_1.n b0_1.c : Value) (.int .i64 i4_3 : Value)) hp12 hS 3 (.pointer (some (a_6.add (Int.toNat i4_3))) : Value) rfl (wanted_none rfl) rfl rfl (by kernel_rfl) (by kernel_rfl) (fun _ _ => run_ixs1 (el := 5) (by kernel_rfl) (by kernel_rfl) hx13 hx13a hx13b) fun hS => ?_
    obtain ⟨t15_7, hx14, h⟩ := h
    refine t_add ⟨4, [13, 14], fun wx => wx.cell? (a_6.add (Int.toNat i4_3)) = some (.int .u8 t15_7)⟩ ?_
    replace hS := SF_on (x := ⟨4, [13, 14], fun wx => wx.cell? (a_6.add (Int.toNat i4_3)) = some (.int .u8 t15_7)⟩) hx14 hS
    refine t_v (s := Instr.loadAt 5 (.pointer (some (a_6.add (Int.toNat i4_3))))) hp12 hS 4 (.int .u8 t15_7 : Value) rfl (wanted_none rfl) rfl rfl (by kernel_rfl) (by kernel_rfl) (fun _ hw => rn_load (by kernel_rfl) (Sw.fact (List.Mem.head _) rfl hw)) fun hS => ?_
    refine t_kw hp12 hS 5 (.int .u8 (IntKind.u8.wrap (Int.tdiv t15_7 16)) : Value) rfl (wanted_none rfl) rfl rfl (by kernel_rfl) (fun _ _ => by kernel_rfl) fun hS => ?_
    obtain ⟨t17_8, hx15, h⟩ := h
    refine t_add ⟨6, [13, 14], fun wx => (Instr.index 9 (.string ((ByteArray.mk #[48, 49, 50, 51, 52, 53, 54, 55, 56, 57, 97, 98, 99, 100, 101, 102])) : Value) (.int .u8 (IntKind.u8.wrap (Int.tdiv t15_7 16)) : Value)).run Try.prog wx = .ok (.int .u8 t17_8 : Value) wx⟩ ?_
    replace hS := SF_on (x := ⟨6, [13, 14], fun wx => (Instr.index 9 (.string ((ByteArray.mk #[48, 49, 50, 51, 52, 53, 54, 55, 56, 57, 97, 98, 99, 100, 101, 102])) : Value) (.int .u8 (IntKind.u8.wrap (Int.tdiv t15_7 16)) : Value)).run Try.prog wx = .ok (.int .u8 t17_8 : Value) wx⟩) hx15 hS
    refine t_v (s := Instr.index 9 (.string ((ByteArray.mk #[48, 49, 50, 51, 52, 53, 54, 55, 56, 57, 97, 98, 99, 100, 101, 102])) : Value) (.int .u8 (IntKind.u8.wrap (Int.tdiv t15_7 16)) : Value)) hp12 hS 6 (.int .u8 t17_8 : Value) rfl (wanted_none rfl) rfl rfl (by kernel_rfl) (by kernel_rfl) (fun _ hw => (Sw.fact (List.Mem.head _) rfl hw)) fun hS => ?_
    refine t_kw hp12 hS 7 (.slice b0_1.a b0_1.n b0_1.c : Value) rfl (wanted_none rfl) rfl rfl (by kernel_rfl) (fun _ _ => by kernel_rfl) fun hS => ?_
    refine t_kw hp12 hS 8 (.int .i64 i4_3 : Value) rfl (wanted_none rfl) rfl rfl (by kernel_rfl) (fun _ _ => by kernel_rfl) fun hS => ?_
    obtain ⟨hx16a, hx16b, a_9, hx16, h⟩ := h
    refine t_v (s := Instr.indexAt 33 (.slice b0_1.a b0_1.n b0_1.c : Value) (.int .i64 i4_3 : Value)) hp12 hS 9 (.pointer (some (a_9.add (Int.toNat i4_3))) : Value) rfl (wanted_none rfl) rfl rfl (by kernel_rfl) (by kernel_rfl) (fun _ _ => run_ixs1 (el := 5) (by kernel_rfl) (by kernel_rfl) hx16 hx16a hx16b) fun hS => ?_
    obtain ⟨t21_10, hx17, h⟩ := h
    refine t_add ⟨10, [13, 14], fun wx => wx.cell? (a_9.add (Int.toNat i4_3)) = some (.int .u8 t21_10)⟩ ?_
    replace hS := SF_on (x := ⟨10, [13, 14], fun wx => wx.cell? (a_9.add (Int.toNat i4_3)) = some (.int .u8 t21_10)⟩) hx17 hS
    refine t_v (s := Instr.loadAt 5 (.pointer (some (a_9.add (Int.toNat i4_3))))) hp12 hS 10 (.int .u8 t21_10 : Value) rfl (wanted_none rfl) rfl rfl (by kernel_rfl) (by kernel_rfl) (fun _ hw => rn_load (by kernel_rfl) (Sw.fact (List.Mem.head _) rfl hw)) fun hS => ?_
    refine t_kw hp12 hS 11 (.int .u8 (Int.tmod t21_10 16) : Value) rfl (wanted_none rfl) rfl rfl (by kernel_rfl) (fun _ _ => by kernel_rfl) fun hS => ?_
    obtain ⟨t23_11, hx18, h⟩ := h
    refine t_add ⟨12, [13, 14], fun wx => (Instr.index 9 (.string ((ByteArray.mk #[48, 49, 50, 51, 52, 53, 54, 55, 56, 57, 97, 98, 99, 100, 101, 102])) : Value) (.int .u8 (Int.tmod t21_10 16) : Value)).run Try.prog wx = .ok (.int .u8 t23_11 : Value) wx⟩ ?_
    replace hS := SF_on (x := ⟨12, [13, 14], fun wx => (Instr.index 9 (.string ((ByteArray.mk #[48, 49, 50, 51, 52, 53, 54, 55, 56, 57, 97, 98, 99, 100, 101, 102])) : Value) (.int .u8 (Int.tmod t21_10 16) : Value)).run Try.prog wx = .ok (.int .u8 t23_11 : Value) wx⟩) hx18 hS
    refine t_v (s := Instr.index 9 (.string ((ByteArray.mk #[48, 49, 50, 51, 52, 53, 54, 55, 56, 57, 97, 98, 99, 100, 101, 102])) : Value) (.int .u8 (Int.tmod t21_10 16) : Value)) hp12 hS 12 (.int .u8 t23_11 : Value) rfl (wanted_none rfl) rfl rfl (by kernel_rfl) (by kernel_rfl) (fun _ hw => (Sw.fact (List.Mem.head _) rfl hw)) fun hS => ?_
    replace h := h _ rfl
    refine t_kstep 13 (.slice (some ⟨w_5.heap.size, 0, none⟩) 2 2 : Value) (w_5.alloc (.cells #[.int .u8 t17_8, .int .u8 t23_11] 5)) (by kernel_rfl) rfl (wanted_none rfl) rfl rfl (by kernel_rfl) (SF_off (by kernel_rfl) (by kernel_rfl) (SF_off (by kernel_rfl) (by kernel_rfl) (SF_off (by kernel_rfl) (by kernel_rfl) (SF_off (by kernel_rfl) (by kernel_rfl) SF_nil)))) fun hS => ?_
    generalize w_5.alloc (.cells #[.int .u8 t17_8, .int .u8 t23_11] 5) = w_12 at hS h ⊢
    obtain ⟨t25_13, w_14, hx19, h⟩ := h
    refine t_w 14 (s := Builtin.append_ #[33, 33] 33 #[.slice out3_2.a out3_2.n out3_2.c, .slice (some ⟨w_5.heap.size, 0, none⟩) 2 2]) (by kernel_rfl) rfl (wanted_none rfl) rfl rfl (by kernel_rfl) hx19 (SF_off (by kernel_rfl) (by kernel_rfl) (SF_off (by kernel_rfl) (by kernel_rfl) (SF_off (by kernel_rfl) (by kernel_rfl) (SF_off (by kernel_rfl) (by kernel_rfl) SF_nil)))) fun hS => ?_
    refine t_kw hp12 hS 15 (.slice t25_13.a t25_13.n t25_13.c : Value) rfl (wanted_none rfl) rfl rfl (by kernel_rfl) (fun _ _ => by kernel_rfl) fun hS => ?_
    refine t_done (by kernel_rfl) (hE12 _ _ ?_)
    refine e_block_n ?_
    refine y_then (hK10 _ _ ?_)
    refine y_region ?_
    refine y_k (.int .i64 i4_3 : Value) w_14 rfl rfl rfl (by kernel_rfl) ?_
    refine y_k (.int .i64 (IntKind.i64.wrap (i4_3 + 1)) : Value) w_14 rfl rfl rfl (by kernel_rfl) ?_
    refine y_k (.int .i64 (IntKind.i64.wrap (i4_3 + 1)) : Value) w_14 rfl rfl rfl (by kernel_rfl) ?_
    refine y_nil ?_
    refine y_then (hN7 (t25_13, IntKind.i64.wrap (i4_3 + 1)) _ _ h ?_)
    dsimp only
    refine upd_id ?_ rfl
    refine upd_id ?_ rfl
    refine upd_id ?_ rfl
    rfl
  · replace h := h.2 (of_decide_eq_false hb22)
    refine y_exit ?_
    repeat (first | refine e_then_x ?_ | refine e_block_y rfl ?_)
    refine e_block_x ?_
    refine y_then (hK3 _ _ ?_)
    refine y_seq fun K20 hK20 => ?_
    refine y_region ?_
    refine y_k (.slice out3_2.a out3_2.n out3_2.c : Value) w_4 rfl rfl rfl (by kernel_rfl) ?_
    obtain ⟨t27_15, hx21, h⟩ := h
    refine y_v (s := convert 33 9 (.slice out3_2.a out3_2.n out3_2.c : Value)) rfl rfl rfl (by kernel_rfl) (hx21) ?_
    refine y_k (.string t27_15 : Value) w_4 rfl rfl rfl (by kernel_rfl) ?_
    refine y_nil ?_
    refine y_then (hK20 _ _ ?_)
    refine y_ret ?_
    repeat (first | refine e_then_r ?_ | refine e_block_r ?_)
    exact (hQ0 _ _ _ (res1 (v := (.string t27_15 : Value)) rfl rfl rfl) ⟨_, rfl, h⟩).1

end Go.Proofs.Ytjgijifankaglaa
