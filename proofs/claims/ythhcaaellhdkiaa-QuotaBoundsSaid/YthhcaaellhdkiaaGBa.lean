/- Printed by gen.py (own program, wip/): for each Go function a predicate transformer and its soundness. -/
import Derived.Test.YthhcaaellhdkiaaProg
import Derived.Test.YthhcaaellhdkiaaST
namespace Go.Proofs.Ythhcaaellhdkiaa
open Go Go.RowKit Go.Proofs.Ythhcaaellhdkiaa.SX
set_option linter.unusedVariables false

/-- slices.Clone[[]byte,byte] -/
def F62 (s0_1 : Sl) (K : Sl → World → Prop) (w : World) : Prop :=
  ((s0_1.a.isNone = true →
  K (⟨none, 0, 0⟩) w) ∧
  (s0_1.a.isNone = false →
  ∀ (w_2 : World), w_2 = w.alloc (.cells #[] 5) →
  ∃ (t7_3 : Sl), ∃ (w_4 : World), (Builtin.append_ #[22, 22] 22 #[.slice (some ⟨w.heap.size, 0, none⟩) 0 0, .slice s0_1.a s0_1.n s0_1.c]).run Try.prog w_2 = .ok (.slice t7_3.a t7_3.n t7_3.c : Value) w_4 ∧
  K t7_3 w_4))
set_option maxHeartbeats 4000000 in
set_option maxRecDepth 20000 in
theorem F62_sound (s0_1 : Sl) (K : Sl → World → Prop) (w : World) (h : F62 s0_1 K w) :
    Calls Try.prog 62 #[.slice s0_1.a s0_1.n s0_1.c] w (fun e w1 => ∃ (r0 : Sl), e = .returned (.slice r0.a r0.n r0.c : Value) ∧ K r0 w1) := by
  unfold F62 at h
  refine y_enter (n := 8) (args := [.slice s0_1.a s0_1.n s0_1.c]) Try.func62 rfl rfl rfl fun Q0 hQ0 => ?_
  refine y_seq fun K1 hK1 => ?_
  refine y_region ?_
  refine y_k (.slice none 0 0 : Value) w rfl rfl rfl (by kernel_rfl) ?_
  refine y_nil ?_
  refine y_then (hK1 _ _ ?_)
  refine y_seq fun K2 hK2 => ?_
  refine y_seq fun K3 hK3 => ?_
  refine y_region ?_
  refine y_k (.slice s0_1.a s0_1.n s0_1.c : Value) w rfl rfl rfl (by kernel_rfl) ?_
  refine y_v (v := (.bool s0_1.a.isNone : Value)) (s := do eqGuard .eql 22 (Operand.tmp 3) (Operand.const (Value.slice none 0 0)) (.slice s0_1.a s0_1.n s0_1.c : Value) (.slice none 0 0 : Value); binOp .eql 22 (.slice s0_1.a s0_1.n s0_1.c : Value) (.slice none 0 0 : Value)) rfl rfl rfl (by kernel_rfl) (run_eql_slicenil (by kernel_rfl)) ?_
  refine y_nil ?_
  refine y_then (hK3 _ _ ?_)
  refine y_cond (s0_1.a.isNone) rfl rfl (fun hb7 => ?_) (fun hb7 => ?_)
  · replace h := h.1 (hb7)
    refine y_seq fun K4 hK4 => ?_
    refine y_region ?_
    refine y_k (.slice none 0 0 : Value) w rfl rfl rfl (by kernel_rfl) ?_
    refine y_nil ?_
    refine y_then (hK4 _ _ ?_)
    refine y_ret ?_
    repeat (first | refine e_then_r ?_ | refine e_block_r ?_)
    exact (hQ0 _ _ _ (res1 (v := (.slice none 0 0 : Value)) rfl rfl rfl) ⟨_, rfl, h⟩).1
  · replace h := h.2 (hb7)
    refine y_skip ?_
    refine y_then (hK2 _ _ ?_)
    refine y_seq fun K5 hK5 => ?_
    refine y_region ?_
    refine y_k (.slice (some ⟨w.heap.size, 0, none⟩) 0 0 : Value) (w.alloc (.cells #[] 5)) rfl rfl rfl (by kernel_rfl) ?_
    replace h := h _ rfl
    generalize w.alloc (.cells #[] 5) = w_2 at h ⊢
    refine y_k (.slice s0_1.a s0_1.n s0_1.c : Value) w_2 rfl rfl rfl (by kernel_rfl) ?_
    obtain ⟨t7_3, w_4, hx6, h⟩ := h
    refine y_v (s := Builtin.append_ #[22, 22] 22 #[.slice (some ⟨w.heap.size, 0, none⟩) 0 0, .slice s0_1.a s0_1.n s0_1.c]) rfl rfl rfl (by kernel_rfl) hx6 ?_
    refine y_k (.slice t7_3.a t7_3.n t7_3.c : Value) w_4 rfl rfl rfl (by kernel_rfl) ?_
    refine y_nil ?_
    refine y_then (hK5 _ _ ?_)
    refine y_ret ?_
    repeat (first | refine e_then_r ?_ | refine e_block_r ?_)
    exact (hQ0 _ _ _ (res1 (v := (.slice t7_3.a t7_3.n t7_3.c : Value)) rfl rfl rfl) ⟨_, rfl, h⟩).1

/-- turnkey/bits.NewWriter -/
def F33  (K : Option Addr → World → Prop) (w : World) : Prop :=
  ∀ (w_1 : World), w_1 = w.alloc (.cells #[.slice none 0 0, .int .i64 0] 110) →
  K (some (⟨w.heap.size, 0, none⟩ : Addr)) w_1
set_option maxHeartbeats 4000000 in
set_option maxRecDepth 20000 in
theorem F33_sound  (K : Option Addr → World → Prop) (w : World) (h : F33  K w) :
    Calls Try.prog 33 #[] w (fun e w1 => ∃ (r0 : Option Addr), e = .returned (.pointer r0 : Value) ∧ K r0 w1) := by
  unfold F33 at h
  refine y_enter (n := 3) (args := []) Try.func33 rfl rfl rfl fun Q0 hQ0 => ?_
  refine y_seq fun K1 hK1 => ?_
  refine y_region ?_
  refine y_k (.pointer none : Value) w rfl rfl rfl (by kernel_rfl) ?_
  refine y_nil ?_
  refine y_then (hK1 _ _ ?_)
  refine y_seq fun K2 hK2 => ?_
  refine y_region ?_
  refine y_k (.agg #[.slice none 0 0, .int .i64 0] : Value) w rfl rfl rfl (by kernel_rfl) ?_
  refine y_k (.pointer (some (⟨w.heap.size, 0, none⟩ : Addr)) : Value) (w.alloc (.cells #[.slice none 0 0, .int .i64 0] 110)) rfl rfl rfl (by kernel_rfl) ?_
  replace h := h _ rfl
  generalize w.alloc (.cells #[.slice none 0 0, .int .i64 0] 110) = w_1 at h ⊢
  refine y_k (.pointer (some (⟨w.heap.size, 0, none⟩ : Addr)) : Value) w_1 rfl rfl rfl (by kernel_rfl) ?_
  refine y_nil ?_
  refine y_then (hK2 _ _ ?_)
  refine y_ret ?_
  repeat (first | refine e_then_r ?_ | refine e_block_r ?_)
  exact (hQ0 _ _ _ (res1 (v := (.pointer (some (⟨w.heap.size, 0, none⟩ : Addr)) : Value)) rfl rfl rfl) ⟨_, rfl, h⟩).1

/-- turnkey/bits.NewReader -/
def F37 (b0_1 : Sl) (K : Option Addr → World → Prop) (w : World) : Prop :=
  Calls Try.prog 62 #[.slice b0_1.a b0_1.n b0_1.c] w fun e w_3 => ∃ (t4_2 : Sl), e = .returned (.slice t4_2.a t4_2.n t4_2.c : Value) ∧
  ∀ (w_4 : World), w_4 = w_3.alloc (.cells #[.slice t4_2.a t4_2.n t4_2.c, .int .i64 0] 115) →
  K (some (⟨w_3.heap.size, 0, none⟩ : Addr)) w_4
set_option maxHeartbeats 4000000 in
set_option maxRecDepth 20000 in
theorem F37_sound (b0_1 : Sl) (K : Option Addr → World → Prop) (w : World) (h : F37 b0_1 K w) :
    Calls Try.prog 37 #[.slice b0_1.a b0_1.n b0_1.c] w (fun e w1 => ∃ (r0 : Option Addr), e = .returned (.pointer r0 : Value) ∧ K r0 w1) := by
  unfold F37 at h
  refine y_enter (n := 7) (args := [.slice b0_1.a b0_1.n b0_1.c]) Try.func37 rfl rfl rfl fun Q0 hQ0 => ?_
  refine y_seq fun K1 hK1 => ?_
  refine y_region ?_
  refine y_k (.pointer none : Value) w rfl rfl rfl (by kernel_rfl) ?_
  refine y_nil ?_
  refine y_then (hK1 _ _ ?_)
  refine y_seq fun K2 hK2 => ?_
  refine y_region ?_
  refine y_k (.slice b0_1.a b0_1.n b0_1.c : Value) w rfl rfl rfl (by kernel_rfl) ?_
  refine y_call rfl rfl rfl (by kernel_rfl) (h.mono ?_)
  rintro _ w_3 ⟨t4_2, rfl, h⟩
  refine ⟨_, rfl, ?_⟩
  refine y_k (.agg #[.slice t4_2.a t4_2.n t4_2.c, .int .i64 0] : Value) w_3 rfl rfl rfl (by kernel_rfl) ?_
  refine y_k (.pointer (some (⟨w_3.heap.size, 0, none⟩ : Addr)) : Value) (w_3.alloc (.cells #[.slice t4_2.a t4_2.n t4_2.c, .int .i64 0] 115)) rfl rfl rfl (by kernel_rfl) ?_
  replace h := h _ rfl
  generalize w_3.alloc (.cells #[.slice t4_2.a t4_2.n t4_2.c, .int .i64 0] 115) = w_4 at h ⊢
  refine y_k (.pointer (some (⟨w_3.heap.size, 0, none⟩ : Addr)) : Value) w_4 rfl rfl rfl (by kernel_rfl) ?_
  refine y_nil ?_
  refine y_then (hK2 _ _ ?_)
  refine y_ret ?_
  repeat (first | refine e_then_r ?_ | refine e_block_r ?_)
  exact (hQ0 _ _ _ (res1 (v := (.pointer (some (⟨w_3.heap.size, 0, none⟩ : Addr)) : Value)) rfl rfl rfl) ⟨_, rfl, h⟩).1

def F39_l1 (r0_1 : Option Addr) (K : Int → Bool → World → Prop) (next12 : (Int × Int) → World → Prop) : (Int × Int) → World → Prop := fun (n1_5, v6_6) w_7 =>
  ((n1_5 > 0 →
  ∃ (a_8 : Addr), r0_1 = some a_8 ∧
  ∃ (t27_9 : Int), w_7.cell? (a_8.add 1) = some (.int .i64 t27_9) ∧
  ∃ (a_10 : Addr), r0_1 = some a_10 ∧
  ∃ (t36_11 : Sl), w_7.cell? a_10 = some (.slice t36_11.a t36_11.n t36_11.c) ∧
  ∃ (a_12 : Addr), r0_1 = some a_12 ∧
  ∃ (t40_13 : Int), w_7.cell? (a_12.add 1) = some (.int .i64 t40_13) ∧
  (0 : Int) ≤ (IntKind.i64.wrap (Int.tdiv t40_13 8)) ∧ (IntKind.i64.wrap (Int.tdiv t40_13 8)) < (t36_11.n : Int) ∧ ∃ (a_14 : Addr), t36_11.a = some a_14 ∧
  ∃ (t43_15 : Int), w_7.cell? (a_14.add (Int.toNat (IntKind.i64.wrap (Int.tdiv t40_13 8)))) = some (.int .u8 t43_15) ∧
  (0 : Int) ≤ (IntKind.i64.wrap ((IntKind.i64.wrap (8 - (Int.tmod t27_9 8))) - ((if n1_5 < (IntKind.i64.wrap (8 - (Int.tmod t27_9 8))) then n1_5 else (IntKind.i64.wrap (8 - (Int.tmod t27_9 8))))))) ∧
  (0 : Int) ≤ ((if n1_5 < (IntKind.i64.wrap (8 - (Int.tmod t27_9 8))) then n1_5 else (IntKind.i64.wrap (8 - (Int.tmod t27_9 8))))) ∧
  ∀ (w_16 : World), (∃ m, w_16 = w_7.drewN m) →
  (0 : Int) ≤ ((if n1_5 < (IntKind.i64.wrap (8 - (Int.tmod t27_9 8))) then n1_5 else (IntKind.i64.wrap (8 - (Int.tmod t27_9 8))))) ∧
  ∃ (a_17 : Addr), r0_1 = some a_17 ∧
  ∃ (t61_18 : Int), w_16.cell? (a_17.add 1) = some (.int .i64 t61_18) ∧
  ∃ (a_19 : Addr), r0_1 = some a_19 ∧
  HasCell w_16 (a_19.add 1) ∧ ∀ (w_20 : World), w_20 = w_16.setCell (a_19.add 1) (.int .i64 (IntKind.i64.wrap (t61_18 + ((if n1_5 < (IntKind.i64.wrap (8 - (Int.tmod t27_9 8))) then n1_5 else (IntKind.i64.wrap (8 - (Int.tmod t27_9 8))))))) : Value) →
  next12 (IntKind.i64.wrap (n1_5 - ((if n1_5 < (IntKind.i64.wrap (8 - (Int.tmod t27_9 8))) then n1_5 else (IntKind.i64.wrap (8 - (Int.tmod t27_9 8)))))), ibits .or .u64 (ishl .u64 v6_6 ((if n1_5 < (IntKind.i64.wrap (8 - (Int.tmod t27_9 8))) then n1_5 else (IntKind.i64.wrap (8 - (Int.tmod t27_9 8)))))) (IntKind.u64.wrap (ibits .and .u8 (ishr .u8 t43_15 (IntKind.i64.wrap ((IntKind.i64.wrap (8 - (Int.tmod t27_9 8))) - ((if n1_5 < (IntKind.i64.wrap (8 - (Int.tmod t27_9 8))) then n1_5 else (IntKind.i64.wrap (8 - (Int.tmod t27_9 8)))))))) (IntKind.u8.wrap ((ishl .u8 1 ((if n1_5 < (IntKind.i64.wrap (8 - (Int.tmod t27_9 8))) then n1_5 else (IntKind.i64.wrap (8 - (Int.tmod t27_9 8)))))) - 1))))) w_20) ∧
  (¬ (n1_5 > 0) →
  K v6_6 true w_7))
/-- (*turnkey/bits.Reader).Get -/
def F39 (r0_1 : Option Addr) (n1_2 : Int) (K : Int → Bool → World → Prop) (w : World) : Prop :=
  ((n1_2 < 0 →
  K 0 false w) ∧
  (¬ (n1_2 < 0) →
  ((n1_2 > 64 →
  K 0 false w) ∧
  (¬ (n1_2 > 64) →
  Calls Try.prog 41 #[.pointer r0_1] w fun e w_4 => ∃ (t19_3 : Int), e = .returned (.int .i64 t19_3 : Value) ∧
  ((n1_2 > t19_3 →
  K 0 false w_4) ∧
  (¬ (n1_2 > t19_3) →
  kLoop (F39_l1 r0_1 K) (n1_2, 0) w_4))))))
set_option maxHeartbeats 4000000 in
set_option maxRecDepth 20000 in
theorem F39_sound (r0_1 : Option Addr) (n1_2 : Int) (K : Int → Bool → World → Prop) (w : World) (h : F39 r0_1 n1_2 K w) :
    Calls Try.prog 39 #[.pointer r0_1, .int .i64 n1_2] w (fun e w1 => ∃ (r0 : Int), ∃ (r1 : Bool), e = .returned (.tuple #[.int .u64 r0, .bool r1]) ∧ K r0 r1 w1) := by
  unfold F39 at h
  refine y_enter (n := 70) (args := [.pointer r0_1, .int .i64 n1_2]) Try.func39 rfl rfl rfl fun Q0 hQ0 => ?_
  refine y_seq fun K1 hK1 => ?_
  refine y_region ?_
  refine y_k (.int .u64 0 : Value) w rfl rfl rfl (by kernel_rfl) ?_
  refine y_k (.bool false : Value) w rfl rfl rfl (by kernel_rfl) ?_
  refine y_nil ?_
  refine y_then (hK1 _ _ ?_)
  refine y_seq fun K2 hK2 => ?_
  refine y_seq fun K3 hK3 => ?_
  refine y_region ?_
  refine y_k (.int .i64 n1_2 : Value) w rfl rfl rfl (by kernel_rfl) ?_
  refine y_k (.bool (decide (n1_2 < 0)) : Value) w rfl rfl rfl (by kernel_rfl) ?_
  refine y_k (.bool (decide (n1_2 < 0)) : Value) w rfl rfl rfl (by kernel_rfl) ?_
  refine y_fork (decide (n1_2 < 0)) (fun hb4 => ?_) (fun hb4 => ?_)
  · replace h := h.1 (of_decide_eq_true hb4)
    refine y_frame (upd_id (i := 12) (v := .bool true) rfl (congrArg Value.bool hb4)) ?_
    refine y_gno rfl rfl rfl rfl ?_
    refine y_gno rfl rfl rfl rfl ?_
    refine y_k (.bool true : Value) w rfl rfl rfl (by kernel_rfl) ?_
    refine y_k (.bool true : Value) w rfl rfl rfl (by kernel_rfl) ?_
    refine y_gno rfl rfl rfl rfl ?_
    refine y_gno rfl rfl rfl rfl ?_
    refine y_gno rfl rfl rfl rfl ?_
    refine y_gno rfl rfl rfl rfl ?_
    refine y_k (.bool true : Value) w rfl rfl rfl (by kernel_rfl) ?_
    refine y_nil ?_
    refine y_then (hK3 _ _ ?_)
    refine y_cond_t rfl rfl ?_
    refine y_seq fun K5 hK5 => ?_
    refine y_region ?_
    refine y_k (.int .u64 0 : Value) w rfl rfl rfl (by kernel_rfl) ?_
    refine y_k (.bool false : Value) w rfl rfl rfl (by kernel_rfl) ?_
    refine y_nil ?_
    refine y_then (hK5 _ _ ?_)
    refine y_ret ?_
    repeat (first | refine e_then_r ?_ | refine e_block_r ?_)
    exact (hQ0 _ _ _ (res2 (v1 := (.int .u64 0 : Value)) (v2 := (.bool false : Value)) rfl rfl rfl rfl) ⟨_, _, rfl, h⟩).1
  · replace h := h.2 (of_decide_eq_false hb4)
    refine y_frame (upd_id (i := 12) (v := .bool false) rfl (congrArg Value.bool hb4)) ?_
    refine y_gyes rfl rfl rfl ?_
    refine y_k (.int .i64 n1_2 : Value) w rfl rfl rfl (by kernel_rfl) ?_
    refine y_gyes rfl rfl rfl ?_
    refine y_k (.bool (decide (n1_2 > 64)) : Value) w rfl rfl rfl (by kernel_rfl) ?_
    refine y_k (.bool (decide (n1_2 > 64)) : Value) w rfl rfl rfl (by kernel_rfl) ?_
    refine y_k (.bool (decide (n1_2 > 64)) : Value) w rfl rfl rfl (by kernel_rfl) ?_
    refine y_fork (decide (n1_2 > 64)) (fun hb6 => ?_) (fun hb6 => ?_)
    · replace h := h.1 (of_decide_eq_true hb6)
      refine y_frame (upd_id (i := 16) (v := .bool true) rfl (congrArg Value.bool hb6)) ?_
      refine y_gno rfl rfl rfl rfl ?_
      refine y_gno rfl rfl rfl rfl ?_
      refine y_gno rfl rfl rfl rfl ?_
      refine y_gno rfl rfl rfl rfl ?_
      refine y_k (.bool true : Value) w rfl rfl rfl (by kernel_rfl) ?_
      refine y_nil ?_
      refine y_then (hK3 _ _ ?_)
      refine y_cond_t rfl rfl ?_
      refine y_seq fun K7 hK7 => ?_
      refine y_region ?_
      refine y_k (.int .u64 0 : Value) w rfl rfl rfl (by kernel_rfl) ?_
      refine y_k (.bool false : Value) w rfl rfl rfl (by kernel_rfl) ?_
      refine y_nil ?_
      refine y_then (hK7 _ _ ?_)
      refine y_ret ?_
      repeat (first | refine e_then_r ?_ | refine e_block_r ?_)
      exact (hQ0 _ _ _ (res2 (v1 := (.int .u64 0 : Value)) (v2 := (.bool false : Value)) rfl rfl rfl rfl) ⟨_, _, rfl, h⟩).1
    · replace h := h.2 (of_decide_eq_false hb6)
      refine y_frame (upd_id (i := 16) (v := .bool false) rfl (congrArg Value.bool hb6)) ?_
      refine y_gyes rfl rfl rfl ?_
      refine y_k (.int .i64 n1_2 : Value) w rfl rfl rfl (by kernel_rfl) ?_
      refine y_gyes rfl rfl rfl ?_
      refine y_k (.pointer r0_1 : Value) w rfl rfl rfl (by kernel_rfl) ?_
      refine y_gyes rfl rfl rfl ?_
      refine y_call rfl rfl rfl (by kernel_rfl) (h.mono ?_)
      rintro _ w_4 ⟨t19_3, rfl, h⟩
      refine ⟨_, rfl, ?_⟩
      refine y_gyes rfl rfl rfl ?_
      refine y_k (.bool (decide (n1_2 > t19_3)) : Value) w_4 rfl rfl rfl (by kernel_rfl) ?_
      refine y_k (.bool (decide (n1_2 > t19_3)) : Value) w_4 rfl rfl rfl (by kernel_rfl) ?_
      refine y_nil ?_
      refine y_then (hK3 _ _ ?_)
      refine y_cond (decide (n1_2 > t19_3)) rfl rfl (fun hb41 => ?_) (fun hb41 => ?_)
      · replace h := h.1 (of_decide_eq_true hb41)
        refine y_seq fun K8 hK8 => ?_
        refine y_region ?_
        refine y_k (.int .u64 0 : Value) w_4 rfl rfl rfl (by kernel_rfl) ?_
        refine y_k (.bool false : Value) w_4 rfl rfl rfl (by kernel_rfl) ?_
        refine y_nil ?_
        refine y_then (hK8 _ _ ?_)
        refine y_ret ?_
        repeat (first | refine e_then_r ?_ | refine e_block_r ?_)
        exact (hQ0 _ _ _ (res2 (v1 := (.int .u64 0 : Value)) (v2 := (.bool false : Value)) rfl rfl rfl rfl) ⟨_, _, rfl, h⟩).1
      · replace h := h.2 (of_decide_eq_false hb41)
        refine y_skip ?_
        refine y_then (hK2 _ _ ?_)
        refine y_seq fun K9 hK9 => ?_
        refine y_region ?_
        refine y_k (.int .u64 0 : Value) w_4 rfl rfl rfl (by kernel_rfl) ?_
        refine y_nil ?_
        refine y_then (hK9 _ _ ?_)
        refine y_seq fun K10 hK10 => ?_
        refine y_block ?_
        refine y_loop (S := Int × Int) (fun s j => match s with | (n1_5, v6_6) => upd (upd (upd (j) 0 (.pointer r0_1 : Value)) 1 (.int .i64 n1_5 : Value)) 6 (.int .u64 v6_6 : Value)) (n1_2, 0) ?_ h ?_
        · dsimp only
          refine upd_id ?_ rfl
          refine upd_id ?_ rfl
          refine upd_id ?_ rfl
          rfl
        rintro KN13 next12 hN13 ⟨n1_5, v6_6⟩ j w_7 h
        unfold F39_l1 at h
        refine y_seq fun K14 hK14 => ?_
        refine y_seq fun K15 hK15 => ?_
        refine y_region ?_
        refine y_k (.int .i64 n1_5 : Value) w_7 rfl rfl rfl (by kernel_rfl) ?_
        refine y_k (.bool (decide (n1_5 > 0)) : Value) w_7 rfl rfl rfl (by kernel_rfl) ?_
        refine y_nil ?_
        refine y_then (hK15 _ _ ?_)
        refine y_cond (decide (n1_5 > 0)) rfl rfl (fun hb40 => ?_) (fun hb40 => ?_)
        · replace h := h.1 (of_decide_eq_true hb40)
          refine y_skip ?_
          refine y_then (hK14 _ _ ?_)
          refine y_block ?_
          refine y_seq fun K17 hK17 => ?_
          refine y_region ?_
          refine y_k (.pointer r0_1 : Value) w_7 rfl rfl rfl (by kernel_rfl) ?_
          obtain ⟨a_8, hx18, h⟩ := h
          refine y_k (.pointer (some a_8) : Value) w_7 rfl rfl rfl (run_nilCheck hx18 rfl) ?_
          refine y_k (.pointer (some (a_8.add 1)) : Value) w_7 rfl rfl rfl (by kernel_rfl) ?_
          obtain ⟨t27_9, hx19, h⟩ := h
          refine y_v (s := Instr.loadAt 3 (.pointer (some (a_8.add 1)))) rfl rfl rfl (by kernel_rfl) (rn_load (by kernel_rfl) hx19) ?_
          refine y_k (.int .i64 (Int.tmod t27_9 8) : Value) w_7 rfl rfl rfl (by kernel_rfl) ?_
          refine y_k (.int .i64 (IntKind.i64.wrap (8 - (Int.tmod t27_9 8))) : Value) w_7 rfl rfl rfl (by kernel_rfl) ?_
          refine y_k (.int .i64 (IntKind.i64.wrap (8 - (Int.tmod t27_9 8))) : Value) w_7 rfl rfl rfl (by kernel_rfl) ?_
          refine y_nil ?_
          refine y_then (hK17 _ _ ?_)
          refine y_seq fun K20 hK20 => ?_
          refine y_region ?_
          refine y_k (.int .i64 (IntKind.i64.wrap (8 - (Int.tmod t27_9 8))) : Value) w_7 rfl rfl rfl (by kernel_rfl) ?_
          refine y_k (.int .i64 n1_5 : Value) w_7 rfl rfl rfl (by kernel_rfl) ?_
          refine y_v (v := (.int .i64 ((if n1_5 < (IntKind.i64.wrap (8 - (Int.tmod t27_9 8))) then n1_5 else (IntKind.i64.wrap (8 - (Int.tmod t27_9 8))))) : Value)) (s := Builtin.min_ #[3, 3] 3 #[.int .i64 (IntKind.i64.wrap (8 - (Int.tmod t27_9 8))), .int .i64 n1_5]) rfl rfl rfl (by kernel_rfl) (run_min2) ?_
          refine y_k (.int .i64 ((if n1_5 < (IntKind.i64.wrap (8 - (Int.tmod t27_9 8))) then n1_5 else (IntKind.i64.wrap (8 - (Int.tmod t27_9 8))))) : Value) w_7 rfl rfl rfl (by kernel_rfl) ?_
          refine y_nil ?_
          refine y_then (hK20 _ _ ?_)
          refine y_seq fun K21 hK21 => ?_
          refine q_region (by kernel_rfl) (by kernel_rfl) fun Qq22 hQq22 => ?_
          refine q_k (.pointer r0_1 : Value) rfl rfl rfl (fun _ => by kernel_rfl) ?_
          obtain ⟨a_10, hx23, h⟩ := h
          refine q_k (.pointer (some a_10) : Value) rfl rfl rfl (fun _ => run_nilCheck hx23 rfl) ?_
          refine q_k (.pointer (some a_10) : Value) rfl rfl rfl (fun _ => by kernel_rfl) ?_
          obtain ⟨t36_11, hx24, h⟩ := h
          refine q_v (v := (.slice t36_11.a t36_11.n t36_11.c : Value)) (s := Instr.loadAt 22 (.pointer (some a_10))) rfl rfl rfl (by kernel_rfl) (fun _ => rn_load (by kernel_rfl) hx24) ?_
          refine q_k (.pointer r0_1 : Value) rfl rfl rfl (fun _ => by kernel_rfl) ?_
          obtain ⟨a_12, hx25, h⟩ := h
          refine q_k (.pointer (some a_12) : Value) rfl rfl rfl (fun _ => run_nilCheck hx25 rfl) ?_
          refine q_k (.pointer (some (a_12.add 1)) : Value) rfl rfl rfl (fun _ => by kernel_rfl) ?_
          obtain ⟨t40_13, hx26, h⟩ := h
          refine q_v (v := (.int .i64 t40_13 : Value)) (s := Instr.loadAt 3 (.pointer (some (a_12.add 1)))) rfl rfl rfl (by kernel_rfl) (fun _ => rn_load (by kernel_rfl) hx26) ?_
          refine q_k (.int .i64 (IntKind.i64.wrap (Int.tdiv t40_13 8)) : Value) rfl rfl rfl (fun _ => by kernel_rfl) ?_
          obtain ⟨hx27a, hx27b, a_14, hx27, h⟩ := h
          refine q_v (v := (.pointer (some (a_14.add (Int.toNat (IntKind.i64.wrap (Int.tdiv t40_13 8))))) : Value)) (s := Instr.indexAt 22 (.slice t36_11.a t36_11.n t36_11.c : Value) (.int .i64 (IntKind.i64.wrap (Int.tdiv t40_13 8)) : Value)) rfl rfl rfl (by kernel_rfl) (fun _ => run_ixs1 (el := 5) (by kernel_rfl) (by kernel_rfl) hx27 hx27a hx27b) ?_
          obtain ⟨t43_15, hx28, h⟩ := h
          refine q_v (v := (.int .u8 t43_15 : Value)) (s := Instr.loadAt 5 (.pointer (some (a_14.add (Int.toNat (IntKind.i64.wrap (Int.tdiv t40_13 8))))))) rfl rfl rfl (by kernel_rfl) (fun _ => rn_load (by kernel_rfl) hx28) ?_
          refine q_k (.int .i64 (IntKind.i64.wrap (8 - (Int.tmod t27_9 8))) : Value) rfl rfl rfl (fun _ => by kernel_rfl) ?_
          refine q_k (.int .i64 ((if n1_5 < (IntKind.i64.wrap (8 - (Int.tmod t27_9 8))) then n1_5 else (IntKind.i64.wrap (8 - (Int.tmod t27_9 8))))) : Value) rfl rfl rfl (fun _ => by kernel_rfl) ?_
          refine q_k (.int .i64 (IntKind.i64.wrap ((IntKind.i64.wrap (8 - (Int.tmod t27_9 8))) - ((if n1_5 < (IntKind.i64.wrap (8 - (Int.tmod t27_9 8))) then n1_5 else (IntKind.i64.wrap (8 - (Int.tmod t27_9 8))))))) : Value) rfl rfl rfl (fun _ => by kernel_rfl) ?_
          obtain ⟨hx29, h⟩ := h
          refine q_k (.int .u8 (ishr .u8 t43_15 (IntKind.i64.wrap ((IntKind.i64.wrap (8 - (Int.tmod t27_9 8))) - ((if n1_5 < (IntKind.i64.wrap (8 - (Int.tmod t27_9 8))) then n1_5 else (IntKind.i64.wrap (8 - (Int.tmod t27_9 8)))))))) : Value) rfl rfl rfl (fun _ => run_shr hx29 rfl rfl) ?_
          refine q_k (.int .i64 ((if n1_5 < (IntKind.i64.wrap (8 - (Int.tmod t27_9 8))) then n1_5 else (IntKind.i64.wrap (8 - (Int.tmod t27_9 8))))) : Value) rfl rfl rfl (fun _ => by kernel_rfl) ?_
          obtain ⟨hx30, h⟩ := h
          refine q_k (.int .u8 (ishl .u8 1 ((if n1_5 < (IntKind.i64.wrap (8 - (Int.tmod t27_9 8))) then n1_5 else (IntKind.i64.wrap (8 - (Int.tmod t27_9 8)))))) : Value) rfl rfl rfl (fun _ => run_shl hx30 rfl rfl) ?_
          refine q_k (.int .u8 (IntKind.u8.wrap ((ishl .u8 1 ((if n1_5 < (IntKind.i64.wrap (8 - (Int.tmod t27_9 8))) then n1_5 else (IntKind.i64.wrap (8 - (Int.tmod t27_9 8)))))) - 1)) : Value) rfl rfl rfl (fun _ => by kernel_rfl) ?_
          refine q_k (.int .u8 (ibits .and .u8 (ishr .u8 t43_15 (IntKind.i64.wrap ((IntKind.i64.wrap (8 - (Int.tmod t27_9 8))) - ((if n1_5 < (IntKind.i64.wrap (8 - (Int.tmod t27_9 8))) then n1_5 else (IntKind.i64.wrap (8 - (Int.tmod t27_9 8)))))))) (IntKind.u8.wrap ((ishl .u8 1 ((if n1_5 < (IntKind.i64.wrap (8 - (Int.tmod t27_9 8))) then n1_5 else (IntKind.i64.wrap (8 - (Int.tmod t27_9 8)))))) - 1))) : Value) rfl rfl rfl (fun _ => by kernel_rfl) ?_
          refine q_k (.int .u8 (ibits .and .u8 (ishr .u8 t43_15 (IntKind.i64.wrap ((IntKind.i64.wrap (8 - (Int.tmod t27_9 8))) - ((if n1_5 < (IntKind.i64.wrap (8 - (Int.tmod t27_9 8))) then n1_5 else (IntKind.i64.wrap (8 - (Int.tmod t27_9 8)))))))) (IntKind.u8.wrap ((ishl .u8 1 ((if n1_5 < (IntKind.i64.wrap (8 - (Int.tmod t27_9 8))) then n1_5 else (IntKind.i64.wrap (8 - (Int.tmod t27_9 8)))))) - 1))) : Value) rfl rfl rfl (fun _ => by kernel_rfl) ?_
          refine q_nil (hQq22 _ fun m38 => ?_)
          replace h := h _ ⟨m38, rfl⟩
          generalize w_7.drewN m38 = w_16 at h ⊢
          refine y_then (hK21 _ _ ?_)
          refine y_seq fun K31 hK31 => ?_
          refine y_region ?_
          refine y_k (.int .u64 v6_6 : Value) w_16 rfl rfl rfl (by kernel_rfl) ?_
          refine y_k (.int .i64 ((if n1_5 < (IntKind.i64.wrap (8 - (Int.tmod t27_9 8))) then n1_5 else (IntKind.i64.wrap (8 - (Int.tmod t27_9 8))))) : Value) w_16 rfl rfl rfl (by kernel_rfl) ?_
          obtain ⟨hx32, h⟩ := h
          refine y_k (.int .u64 (ishl .u64 v6_6 ((if n1_5 < (IntKind.i64.wrap (8 - (Int.tmod t27_9 8))) then n1_5 else (IntKind.i64.wrap (8 - (Int.tmod t27_9 8)))))) : Value) w_16 rfl rfl rfl (run_shl hx32 rfl rfl) ?_
          refine y_k (.int .u8 (ibits .and .u8 (ishr .u8 t43_15 (IntKind.i64.wrap ((IntKind.i64.wrap (8 - (Int.tmod t27_9 8))) - ((if n1_5 < (IntKind.i64.wrap (8 - (Int.tmod t27_9 8))) then n1_5 else (IntKind.i64.wrap (8 - (Int.tmod t27_9 8)))))))) (IntKind.u8.wrap ((ishl .u8 1 ((if n1_5 < (IntKind.i64.wrap (8 - (Int.tmod t27_9 8))) then n1_5 else (IntKind.i64.wrap (8 - (Int.tmod t27_9 8)))))) - 1))) : Value) w_16 rfl rfl rfl (by kernel_rfl) ?_
          refine y_k (.int .u64 (IntKind.u64.wrap (ibits .and .u8 (ishr .u8 t43_15 (IntKind.i64.wrap ((IntKind.i64.wrap (8 - (Int.tmod t27_9 8))) - ((if n1_5 < (IntKind.i64.wrap (8 - (Int.tmod t27_9 8))) then n1_5 else (IntKind.i64.wrap (8 - (Int.tmod t27_9 8)))))))) (IntKind.u8.wrap ((ishl .u8 1 ((if n1_5 < (IntKind.i64.wrap (8 - (Int.tmod t27_9 8))) then n1_5 else (IntKind.i64.wrap (8 - (Int.tmod t27_9 8)))))) - 1)))) : Value) w_16 rfl rfl rfl (by kernel_rfl) ?_
          refine y_k (.int .u64 (ibits .or .u64 (ishl .u64 v6_6 ((if n1_5 < (IntKind.i64.wrap (8 - (Int.tmod t27_9 8))) then n1_5 else (IntKind.i64.wrap (8 - (Int.tmod t27_9 8)))))) (IntKind.u64.wrap (ibits .and .u8 (ishr .u8 t43_15 (IntKind.i64.wrap ((IntKind.i64.wrap (8 - (Int.tmod t27_9 8))) - ((if n1_5 < (IntKind.i64.wrap (8 - (Int.tmod t27_9 8))) then n1_5 else (IntKind.i64.wrap (8 - (Int.tmod t27_9 8)))))))) (IntKind.u8.wrap ((ishl .u8 1 ((if n1_5 < (IntKind.i64.wrap (8 - (Int.tmod t27_9 8))) then n1_5 else (IntKind.i64.wrap (8 - (Int.tmod t27_9 8)))))) - 1))))) : Value) w_16 rfl rfl rfl (by kernel_rfl) ?_
          refine y_k (.int .u64 (ibits .or .u64 (ishl .u64 v6_6 ((if n1_5 < (IntKind.i64.wrap (8 - (Int.tmod t27_9 8))) then n1_5 else (IntKind.i64.wrap (8 - (Int.tmod t27_9 8)))))) (IntKind.u64.wrap (ibits .and .u8 (ishr .u8 t43_15 (IntKind.i64.wrap ((IntKind.i64.wrap (8 - (Int.tmod t27_9 8))) - ((if n1_5 < (IntKind.i64.wrap (8 - (Int.tmod t27_9 8))) then n1_5 else (IntKind.i64.wrap (8 - (Int.tmod t27_9 8)))))))) (IntKind.u8.wrap ((ishl .u8 1 ((if n1_5 < (IntKind.i64.wrap (8 - (Int.tmod t27_9 8))) then n1_5 else (IntKind.i64.wrap (8 - (Int.tmod t27_9 8)))))) - 1))))) : Value) w_16 rfl rfl rfl (by kernel_rfl) ?_
          refine y_nil ?_
          refine y_then (hK31 _ _ ?_)
          refine y_seq fun K33 hK33 => ?_
          refine y_region ?_
          refine y_k (.pointer r0_1 : Value) w_16 rfl rfl rfl (by kernel_rfl) ?_
          obtain ⟨a_17, hx34, h⟩ := h
          refine y_k (.pointer (some a_17) : Value) w_16 rfl rfl rfl (run_nilCheck hx34 rfl) ?_
          refine y_k (.pointer (some (a_17.add 1)) : Value) w_16 rfl rfl rfl (by kernel_rfl) ?_
          obtain ⟨t61_18, hx35, h⟩ := h
          refine y_v (s := Instr.loadAt 3 (.pointer (some (a_17.add 1)))) rfl rfl rfl (by kernel_rfl) (rn_load (by kernel_rfl) hx35) ?_
          refine y_k (.int .i64 ((if n1_5 < (IntKind.i64.wrap (8 - (Int.tmod t27_9 8))) then n1_5 else (IntKind.i64.wrap (8 - (Int.tmod t27_9 8))))) : Value) w_16 rfl rfl rfl (by kernel_rfl) ?_
          refine y_k (.int .i64 (IntKind.i64.wrap (t61_18 + ((if n1_5 < (IntKind.i64.wrap (8 - (Int.tmod t27_9 8))) then n1_5 else (IntKind.i64.wrap (8 - (Int.tmod t27_9 8))))))) : Value) w_16 rfl rfl rfl (by kernel_rfl) ?_
          obtain ⟨a_19, hx36, h⟩ := h
          refine y_k (.pointer (some a_19) : Value) w_16 rfl rfl rfl (run_nilCheck hx36 rfl) ?_
          refine y_k (.pointer (some (a_19.add 1)) : Value) w_16 rfl rfl rfl (by kernel_rfl) ?_
          obtain ⟨hx37, h⟩ := h
          replace h := h _ rfl
          refine y_u (s := Instr.storeAt 3 (.pointer (some (a_19.add 1))) (.int .i64 (IntKind.i64.wrap (t61_18 + ((if n1_5 < (IntKind.i64.wrap (8 - (Int.tmod t27_9 8))) then n1_5 else (IntKind.i64.wrap (8 - (Int.tmod t27_9 8))))))) : Value)) rfl rfl (by kernel_rfl) (rn_store1 (by kernel_rfl) rfl hx37) ?_
          generalize w_16.setCell (a_19.add 1) (.int .i64 (IntKind.i64.wrap (t61_18 + ((if n1_5 < (IntKind.i64.wrap (8 - (Int.tmod t27_9 8))) then n1_5 else (IntKind.i64.wrap (8 - (Int.tmod t27_9 8))))))) : Value) = w_20 at h ⊢
          refine y_nil ?_
          refine y_then (hK33 _ _ ?_)
          refine y_region ?_
          refine y_k (.int .i64 n1_5 : Value) w_20 rfl rfl rfl (by kernel_rfl) ?_
          refine y_k (.int .i64 ((if n1_5 < (IntKind.i64.wrap (8 - (Int.tmod t27_9 8))) then n1_5 else (IntKind.i64.wrap (8 - (Int.tmod t27_9 8))))) : Value) w_20 rfl rfl rfl (by kernel_rfl) ?_
          refine y_k (.int .i64 (IntKind.i64.wrap (n1_5 - ((if n1_5 < (IntKind.i64.wrap (8 - (Int.tmod t27_9 8))) then n1_5 else (IntKind.i64.wrap (8 - (Int.tmod t27_9 8))))))) : Value) w_20 rfl rfl rfl (by kernel_rfl) ?_
          refine y_k (.int .i64 (IntKind.i64.wrap (n1_5 - ((if n1_5 < (IntKind.i64.wrap (8 - (Int.tmod t27_9 8))) then n1_5 else (IntKind.i64.wrap (8 - (Int.tmod t27_9 8))))))) : Value) w_20 rfl rfl rfl (by kernel_rfl) ?_
          refine y_nil ?_
          refine e_block_n ?_
          refine y_then (hN13 (IntKind.i64.wrap (n1_5 - ((if n1_5 < (IntKind.i64.wrap (8 - (Int.tmod t27_9 8))) then n1_5 else (IntKind.i64.wrap (8 - (Int.tmod t27_9 8)))))), ibits .or .u64 (ishl .u64 v6_6 ((if n1_5 < (IntKind.i64.wrap (8 - (Int.tmod t27_9 8))) then n1_5 else (IntKind.i64.wrap (8 - (Int.tmod t27_9 8)))))) (IntKind.u64.wrap (ibits .and .u8 (ishr .u8 t43_15 (IntKind.i64.wrap ((IntKind.i64.wrap (8 - (Int.tmod t27_9 8))) - ((if n1_5 < (IntKind.i64.wrap (8 - (Int.tmod t27_9 8))) then n1_5 else (IntKind.i64.wrap (8 - (Int.tmod t27_9 8)))))))) (IntKind.u8.wrap ((ishl .u8 1 ((if n1_5 < (IntKind.i64.wrap (8 - (Int.tmod t27_9 8))) then n1_5 else (IntKind.i64.wrap (8 - (Int.tmod t27_9 8)))))) - 1))))) _ _ h ?_)
          dsimp only
          refine upd_id ?_ rfl
          refine upd_id ?_ rfl
          refine upd_id ?_ rfl
          rfl
        · replace h := h.2 (of_decide_eq_false hb40)
          refine y_exit ?_
          repeat (first | refine e_then_x ?_ | refine e_block_y rfl ?_)
          refine e_block_x ?_
          refine y_then (hK10 _ _ ?_)
          refine y_seq fun K39 hK39 => ?_
          refine y_region ?_
          refine y_k (.int .u64 v6_6 : Value) w_7 rfl rfl rfl (by kernel_rfl) ?_
          refine y_k (.int .u64 v6_6 : Value) w_7 rfl rfl rfl (by kernel_rfl) ?_
          refine y_k (.bool true : Value) w_7 rfl rfl rfl (by kernel_rfl) ?_
          refine y_nil ?_
          refine y_then (hK39 _ _ ?_)
          refine y_ret ?_
          repeat (first | refine e_then_r ?_ | refine e_block_r ?_)
          exact (hQ0 _ _ _ (res2 (v1 := (.int .u64 v6_6 : Value)) (v2 := (.bool true : Value)) rfl rfl rfl rfl) ⟨_, _, rfl, h⟩).1

/-- (*turnkey/bits.Reader).Left -/
def F41 (r0_1 : Option Addr) (K : Int → World → Prop) (w : World) : Prop :=
  ∃ (a_2 : Addr), r0_1 = some a_2 ∧
  ∃ (t6_3 : Sl), w.cell? a_2 = some (.slice t6_3.a t6_3.n t6_3.c) ∧
  ∃ (a_4 : Addr), r0_1 = some a_4 ∧
  ∃ (t12_5 : Int), w.cell? (a_4.add 1) = some (.int .i64 t12_5) ∧
  ∀ (w_6 : World), (∃ m, w_6 = w.drewN m) →
  K (IntKind.i64.wrap ((IntKind.i64.wrap (8 * ((t6_3.n : Int)))) - t12_5)) w_6
set_option maxHeartbeats 4000000 in
set_option maxRecDepth 20000 in
theorem F41_sound (r0_1 : Option Addr) (K : Int → World → Prop) (w : World) (h : F41 r0_1 K w) :
    Calls Try.prog 41 #[.pointer r0_1] w (fun e w1 => ∃ (r0 : Int), e = .returned (.int .i64 r0 : Value) ∧ K r0 w1) := by
  unfold F41 at h
  refine y_enter (n := 14) (args := [.pointer r0_1]) Try.func41 rfl rfl rfl fun Q0 hQ0 => ?_
  refine y_seq fun K1 hK1 => ?_
  refine y_region ?_
  refine y_k (.int .i64 0 : Value) w rfl rfl rfl (by kernel_rfl) ?_
  refine y_nil ?_
  refine y_then (hK1 _ _ ?_)
  refine y_seq fun K2 hK2 => ?_
  refine q_region (by kernel_rfl) (by kernel_rfl) fun Qq3 hQq3 => ?_
  refine q_k (.pointer r0_1 : Value) rfl rfl rfl (fun _ => by kernel_rfl) ?_
  obtain ⟨a_2, hx4, h⟩ := h
  refine q_k (.pointer (some a_2) : Value) rfl rfl rfl (fun _ => run_nilCheck hx4 rfl) ?_
  refine q_k (.pointer (some a_2) : Value) rfl rfl rfl (fun _ => by kernel_rfl) ?_
  obtain ⟨t6_3, hx5, h⟩ := h
  refine q_v (v := (.slice t6_3.a t6_3.n t6_3.c : Value)) (s := Instr.loadAt 22 (.pointer (some a_2))) rfl rfl rfl (by kernel_rfl) (fun _ => rn_load (by kernel_rfl) hx5) ?_
  refine q_k (.int .i64 ((t6_3.n : Int)) : Value) rfl rfl rfl (fun _ => by kernel_rfl) ?_
  refine q_k (.int .i64 (IntKind.i64.wrap (8 * ((t6_3.n : Int)))) : Value) rfl rfl rfl (fun _ => by kernel_rfl) ?_
  refine q_k (.pointer r0_1 : Value) rfl rfl rfl (fun _ => by kernel_rfl) ?_
  obtain ⟨a_4, hx6, h⟩ := h
  refine q_k (.pointer (some a_4) : Value) rfl rfl rfl (fun _ => run_nilCheck hx6 rfl) ?_
  refine q_k (.pointer (some (a_4.add 1)) : Value) rfl rfl rfl (fun _ => by kernel_rfl) ?_
  obtain ⟨t12_5, hx7, h⟩ := h
  refine q_v (v := (.int .i64 t12_5 : Value)) (s := Instr.loadAt 3 (.pointer (some (a_4.add 1)))) rfl rfl rfl (by kernel_rfl) (fun _ => rn_load (by kernel_rfl) hx7) ?_
  refine q_k (.int .i64 (IntKind.i64.wrap ((IntKind.i64.wrap (8 * ((t6_3.n : Int)))) - t12_5)) : Value) rfl rfl rfl (fun _ => by kernel_rfl) ?_
  refine q_k (.int .i64 (IntKind.i64.wrap ((IntKind.i64.wrap (8 * ((t6_3.n : Int)))) - t12_5)) : Value) rfl rfl rfl (fun _ => by kernel_rfl) ?_
  refine q_nil (hQq3 _ fun m8 => ?_)
  replace h := h _ ⟨m8, rfl⟩
  generalize w.drewN m8 = w_6 at h ⊢
  refine y_then (hK2 _ _ ?_)
  refine y_ret ?_
  repeat (first | refine e_then_r ?_ | refine e_block_r ?_)
  exact (hQ0 _ _ _ (res1 (v := (.int .i64 (IntKind.i64.wrap ((IntKind.i64.wrap (8 * ((t6_3.n : Int)))) - t12_5)) : Value)) rfl rfl rfl) ⟨_, rfl, h⟩).1

def F43_j2 (w0_1 : Option Addr) (v1_2 : Int) (n2_4 : Int) (next3 : (Int) → World → Prop) (t17_7 : Int) (w_15 : World) : Prop :=
  (0 : Int) ≤ (IntKind.i64.wrap (n2_4 - ((if n2_4 < (IntKind.i64.wrap (8 - (Int.tmod t17_7 8))) then n2_4 else (IntKind.i64.wrap (8 - (Int.tmod t17_7 8))))))) ∧
  (0 : Int) ≤ ((if n2_4 < (IntKind.i64.wrap (8 - (Int.tmod t17_7 8))) then n2_4 else (IntKind.i64.wrap (8 - (Int.tmod t17_7 8))))) ∧
  ∀ (w_16 : World), (∃ m, w_16 = w_15.drewN m) →
  ∀ (w_17 : World), w_17 = w_16.drew →
  ∃ (a_18 : Addr), w0_1 = some a_18 ∧
  ∃ (t47_19 : Sl), w_17.cell? a_18 = some (.slice t47_19.a t47_19.n t47_19.c) ∧
  ∃ (a_20 : Addr), w0_1 = some a_20 ∧
  ∃ (t51_21 : Sl), w_17.cell? a_20 = some (.slice t51_21.a t51_21.n t51_21.c) ∧
  (0 : Int) ≤ (IntKind.i64.wrap (((t51_21.n : Int)) - 1)) ∧ (IntKind.i64.wrap (((t51_21.n : Int)) - 1)) < (t47_19.n : Int) ∧ ∃ (a_22 : Addr), t47_19.a = some a_22 ∧
  ∃ (t55_23 : Int), w_17.cell? (a_22.add (Int.toNat (IntKind.i64.wrap (((t51_21.n : Int)) - 1)))) = some (.int .u8 t55_23) ∧
  (0 : Int) ≤ (IntKind.i64.wrap ((IntKind.i64.wrap (8 - (Int.tmod t17_7 8))) - ((if n2_4 < (IntKind.i64.wrap (8 - (Int.tmod t17_7 8))) then n2_4 else (IntKind.i64.wrap (8 - (Int.tmod t17_7 8))))))) ∧
  (0 : Int) ≤ (IntKind.i64.wrap (((t51_21.n : Int)) - 1)) ∧ (IntKind.i64.wrap (((t51_21.n : Int)) - 1)) < (t47_19.n : Int) ∧ ∃ (a_24 : Addr), t47_19.a = some a_24 ∧
  HasCell w_17 (a_24.add (Int.toNat (IntKind.i64.wrap (((t51_21.n : Int)) - 1)))) ∧ ∀ (w_25 : World), w_25 = w_17.setCell (a_24.add (Int.toNat (IntKind.i64.wrap (((t51_21.n : Int)) - 1)))) (.int .u8 (ibits .or .u8 t55_23 (ishl .u8 (ibits .and .u8 (IntKind.u8.wrap (ishr .u64 v1_2 (IntKind.i64.wrap (n2_4 - ((if n2_4 < (IntKind.i64.wrap (8 - (Int.tmod t17_7 8))) then n2_4 else (IntKind.i64.wrap (8 - (Int.tmod t17_7 8))))))))) (IntKind.u8.wrap ((ishl .u8 1 ((if n2_4 < (IntKind.i64.wrap (8 - (Int.tmod t17_7 8))) then n2_4 else (IntKind.i64.wrap (8 - (Int.tmod t17_7 8)))))) - 1))) (IntKind.i64.wrap ((IntKind.i64.wrap (8 - (Int.tmod t17_7 8))) - ((if n2_4 < (IntKind.i64.wrap (8 - (Int.tmod t17_7 8))) then n2_4 else (IntKind.i64.wrap (8 - (Int.tmod t17_7 8))))))))) : Value) → 
  ∃ (a_26 : Addr), w0_1 = some a_26 ∧
  ∃ (t66_27 : Int), w_25.cell? (a_26.add 1) = some (.int .i64 t66_27) ∧
  ∃ (a_28 : Addr), w0_1 = some a_28 ∧
  HasCell w_25 (a_28.add 1) ∧ ∀ (w_29 : World), w_29 = w_25.setCell (a_28.add 1) (.int .i64 (IntKind.i64.wrap (t66_27 + ((if n2_4 < (IntKind.i64.wrap (8 - (Int.tmod t17_7 8))) then n2_4 else (IntKind.i64.wrap (8 - (Int.tmod t17_7 8))))))) : Value) →
  next3 (IntKind.i64.wrap (n2_4 - ((if n2_4 < (IntKind.i64.wrap (8 - (Int.tmod t17_7 8))) then n2_4 else (IntKind.i64.wrap (8 - (Int.tmod t17_7 8))))))) w_29
def F43_l1 (w0_1 : Option Addr) (v1_2 : Int) (K : World → Prop) (next3 : (Int) → World → Prop) : (Int) → World → Prop := fun (n2_4) w_5 =>
  ((n2_4 > 0 →
  ∃ (a_6 : Addr), w0_1 = some a_6 ∧
  ∃ (t17_7 : Int), w_5.cell? (a_6.add 1) = some (.int .i64 t17_7) ∧
  ((((IntKind.i64.wrap (8 - (Int.tmod t17_7 8)))) = 8 →
  ∃ (a_8 : Addr), w0_1 = some a_8 ∧
  ∃ (t26_9 : Sl), w_5.cell? a_8 = some (.slice t26_9.a t26_9.n t26_9.c) ∧
  ∀ (w_10 : World), w_10 = w_5.alloc (.cells #[.int .u8 0] 5) →
  ∃ (t28_11 : Sl), ∃ (w_12 : World), (Builtin.append_ #[22, 22] 22 #[.slice t26_9.a t26_9.n t26_9.c, .slice (some ⟨w_5.heap.size, 0, none⟩) 1 1]).run Try.prog w_10 = .ok (.slice t28_11.a t28_11.n t28_11.c : Value) w_12 ∧
  ∃ (a_13 : Addr), w0_1 = some a_13 ∧
  HasCell w_12 a_13 ∧ ∀ (w_14 : World), w_14 = w_12.setCell a_13 (.slice t28_11.a t28_11.n t28_11.c : Value) →
  F43_j2 w0_1 v1_2 n2_4 next3 t17_7 w_14) ∧
  (¬ ((IntKind.i64.wrap (8 - (Int.tmod t17_7 8)))) = 8 →
  F43_j2 w0_1 v1_2 n2_4 next3 t17_7 w_5))) ∧
  (¬ (n2_4 > 0) →
  K w_5))
/-- (*turnkey/bits.Writer).Put -/
def F43 (w0_1 : Option Addr) (v1_2 : Int) (n2_3 : Int) (K : World → Prop) (w : World) : Prop :=
  kLoop (F43_l1 w0_1 v1_2 K) ((if 64 < ((if 0 > n2_3 then 0 else n2_3)) then 64 else ((if 0 > n2_3 then 0 else n2_3)))) w
set_option maxHeartbeats 4000000 in
set_option maxRecDepth 20000 in
theorem F43_sound (w0_1 : Option Addr) (v1_2 : Int) (n2_3 : Int) (K : World → Prop) (w : World) (h : F43 w0_1 v1_2 n2_3 K w) :
    Calls Try.prog 43 #[.pointer w0_1, .int .u64 v1_2, .int .i64 n2_3] w (fun e w1 => e = .returned (.tuple #[]) ∧ K  w1) := by
  unfold F43 at h
  refine y_enter (n := 74) (args := [.pointer w0_1, .int .u64 v1_2, .int .i64 n2_3]) Try.func43 rfl rfl rfl fun Q0 hQ0 => ?_
  refine y_seq fun K1 hK1 => ?_
  refine y_region ?_
  refine y_k (.int .i64 n2_3 : Value) w rfl rfl rfl (by kernel_rfl) ?_
  refine y_v (v := (.int .i64 ((if 0 > n2_3 then 0 else n2_3)) : Value)) (s := Builtin.max_ #[3, 3] 3 #[.int .i64 n2_3, .int .i64 0]) rfl rfl rfl (by kernel_rfl) (run_max2) ?_
  refine y_v (v := (.int .i64 ((if 64 < ((if 0 > n2_3 then 0 else n2_3)) then 64 else ((if 0 > n2_3 then 0 else n2_3)))) : Value)) (s := Builtin.min_ #[3, 3] 3 #[.int .i64 ((if 0 > n2_3 then 0 else n2_3)), .int .i64 64]) rfl rfl rfl (by kernel_rfl) (run_min2) ?_
  refine y_k (.int .i64 ((if 64 < ((if 0 > n2_3 then 0 else n2_3)) then 64 else ((if 0 > n2_3 then 0 else n2_3)))) : Value) w rfl rfl rfl (by kernel_rfl) ?_
  refine y_nil ?_
  refine y_then (hK1 _ _ ?_)
  refine y_block ?_
  refine y_loop (S := Int) (fun s j => match s with | (n2_4) => upd (upd (upd (j) 0 (.pointer w0_1 : Value)) 1 (.int .u64 v1_2 : Value)) 2 (.int .i64 n2_4 : Value)) ((if 64 < ((if 0 > n2_3 then 0 else n2_3)) then 64 else ((if 0 > n2_3 then 0 else n2_3)))) ?_ h ?_
  · dsimp only
    refine upd_id ?_ rfl
    refine upd_id ?_ rfl
    refine upd_id ?_ rfl
    rfl
  rintro KN4 next3 hN4 n2_4 j w_5 h
  unfold F43_l1 at h
  refine y_seq fun K5 hK5 => ?_
  refine y_seq fun K6 hK6 => ?_
  refine y_region ?_
  refine y_k (.int .i64 n2_4 : Value) w_5 rfl rfl rfl (by kernel_rfl) ?_
  refine y_k (.bool (decide (n2_4 > 0)) : Value) w_5 rfl rfl rfl (by kernel_rfl) ?_
  refine y_nil ?_
  refine y_then (hK6 _ _ ?_)
  refine y_cond (decide (n2_4 > 0)) rfl rfl (fun hb41 => ?_) (fun hb41 => ?_)
  · replace h := h.1 (of_decide_eq_true hb41)
    refine y_skip ?_
    refine y_then (hK5 _ _ ?_)
    refine y_block ?_
    refine y_seq fun K8 hK8 => ?_
    refine y_region ?_
    refine y_k (.pointer w0_1 : Value) w_5 rfl rfl rfl (by kernel_rfl) ?_
    obtain ⟨a_6, hx9, h⟩ := h
    refine y_k (.pointer (some a_6) : Value) w_5 rfl rfl rfl (run_nilCheck hx9 rfl) ?_
    refine y_k (.pointer (some (a_6.add 1)) : Value) w_5 rfl rfl rfl (by kernel_rfl) ?_
    obtain ⟨t17_7, hx10, h⟩ := h
    refine y_v (s := Instr.loadAt 3 (.pointer (some (a_6.add 1)))) rfl rfl rfl (by kernel_rfl) (rn_load (by kernel_rfl) hx10) ?_
    refine y_k (.int .i64 (Int.tmod t17_7 8) : Value) w_5 rfl rfl rfl (by kernel_rfl) ?_
    refine y_k (.int .i64 (IntKind.i64.wrap (8 - (Int.tmod t17_7 8))) : Value) w_5 rfl rfl rfl (by kernel_rfl) ?_
    refine y_k (.int .i64 (IntKind.i64.wrap (8 - (Int.tmod t17_7 8))) : Value) w_5 rfl rfl rfl (by kernel_rfl) ?_
    refine y_nil ?_
    refine y_then (hK8 _ _ ?_)
    refine y_seq fun K11 hK11 => ?_
    have hjK11 : ∀ (f : Fr) (w_15 : World), f 0 = (.pointer w0_1 : Value) → f 1 = (.int .u64 v1_2 : Value) → f 2 = (.int .i64 n2_4 : Value) → f 6 = (.int .i64 (IntKind.i64.wrap (8 - (Int.tmod t17_7 8))) : Value) → F43_j2 w0_1 v1_2 n2_4 next3 t17_7 w_15 → WK K11 74 f w_15 := by
      intro f  w_15 e0 e1 e2 e6 h
      refine y_atf (upd_id (upd_id (upd_id (upd_id rfl e0) e1) e2) e6) ?_
      clear e0 e1 e2 e6
      unfold F43_j2 at h
      refine hK11 _ _ ?_
      refine y_seq fun K18 hK18 => ?_
      refine y_region ?_
      refine y_k (.int .i64 (IntKind.i64.wrap (8 - (Int.tmod t17_7 8))) : Value) w_15 rfl rfl rfl (by kernel_rfl) ?_
      refine y_k (.int .i64 n2_4 : Value) w_15 rfl rfl rfl (by kernel_rfl) ?_
      refine y_v (v := (.int .i64 ((if n2_4 < (IntKind.i64.wrap (8 - (Int.tmod t17_7 8))) then n2_4 else (IntKind.i64.wrap (8 - (Int.tmod t17_7 8))))) : Value)) (s := Builtin.min_ #[3, 3] 3 #[.int .i64 (IntKind.i64.wrap (8 - (Int.tmod t17_7 8))), .int .i64 n2_4]) rfl rfl rfl (by kernel_rfl) (run_min2) ?_
      refine y_k (.int .i64 ((if n2_4 < (IntKind.i64.wrap (8 - (Int.tmod t17_7 8))) then n2_4 else (IntKind.i64.wrap (8 - (Int.tmod t17_7 8))))) : Value) w_15 rfl rfl rfl (by kernel_rfl) ?_
      refine y_nil ?_
      refine y_then (hK18 _ _ ?_)
      refine y_seq fun K19 hK19 => ?_
      refine q_region (by kernel_rfl) (by kernel_rfl) fun Qq20 hQq20 => ?_
      refine q_k (.int .u64 v1_2 : Value) rfl rfl rfl (fun _ => by kernel_rfl) ?_
      refine q_k (.int .i64 n2_4 : Value) rfl rfl rfl (fun _ => by kernel_rfl) ?_
      refine q_k (.int .i64 ((if n2_4 < (IntKind.i64.wrap (8 - (Int.tmod t17_7 8))) then n2_4 else (IntKind.i64.wrap (8 - (Int.tmod t17_7 8))))) : Value) rfl rfl rfl (fun _ => by kernel_rfl) ?_
      refine q_k (.int .i64 (IntKind.i64.wrap (n2_4 - ((if n2_4 < (IntKind.i64.wrap (8 - (Int.tmod t17_7 8))) then n2_4 else (IntKind.i64.wrap (8 - (Int.tmod t17_7 8))))))) : Value) rfl rfl rfl (fun _ => by kernel_rfl) ?_
      obtain ⟨hx21, h⟩ := h
      refine q_k (.int .u64 (ishr .u64 v1_2 (IntKind.i64.wrap (n2_4 - ((if n2_4 < (IntKind.i64.wrap (8 - (Int.tmod t17_7 8))) then n2_4 else (IntKind.i64.wrap (8 - (Int.tmod t17_7 8)))))))) : Value) rfl rfl rfl (fun _ => run_shr hx21 rfl rfl) ?_
      refine q_k (.int .u8 (IntKind.u8.wrap (ishr .u64 v1_2 (IntKind.i64.wrap (n2_4 - ((if n2_4 < (IntKind.i64.wrap (8 - (Int.tmod t17_7 8))) then n2_4 else (IntKind.i64.wrap (8 - (Int.tmod t17_7 8))))))))) : Value) rfl rfl rfl (fun _ => by kernel_rfl) ?_
      refine q_k (.int .i64 ((if n2_4 < (IntKind.i64.wrap (8 - (Int.tmod t17_7 8))) then n2_4 else (IntKind.i64.wrap (8 - (Int.tmod t17_7 8))))) : Value) rfl rfl rfl (fun _ => by kernel_rfl) ?_
      obtain ⟨hx22, h⟩ := h
      refine q_k (.int .u8 (ishl .u8 1 ((if n2_4 < (IntKind.i64.wrap (8 - (Int.tmod t17_7 8))) then n2_4 else (IntKind.i64.wrap (8 - (Int.tmod t17_7 8)))))) : Value) rfl rfl rfl (fun _ => run_shl hx22 rfl rfl) ?_
      refine q_k (.int .u8 (IntKind.u8.wrap ((ishl .u8 1 ((if n2_4 < (IntKind.i64.wrap (8 - (Int.tmod t17_7 8))) then n2_4 else (IntKind.i64.wrap (8 - (Int.tmod t17_7 8)))))) - 1)) : Value) rfl rfl rfl (fun _ => by kernel_rfl) ?_
      refine q_k (.int .u8 (ibits .and .u8 (IntKind.u8.wrap (ishr .u64 v1_2 (IntKind.i64.wrap (n2_4 - ((if n2_4 < (IntKind.i64.wrap (8 - (Int.tmod t17_7 8))) then n2_4 else (IntKind.i64.wrap (8 - (Int.tmod t17_7 8))))))))) (IntKind.u8.wrap ((ishl .u8 1 ((if n2_4 < (IntKind.i64.wrap (8 - (Int.tmod t17_7 8))) then n2_4 else (IntKind.i64.wrap (8 - (Int.tmod t17_7 8)))))) - 1))) : Value) rfl rfl rfl (fun _ => by kernel_rfl) ?_
      refine q_k (.int .u8 (ibits .and .u8 (IntKind.u8.wrap (ishr .u64 v1_2 (IntKind.i64.wrap (n2_4 - ((if n2_4 < (IntKind.i64.wrap (8 - (Int.tmod t17_7 8))) then n2_4 else (IntKind.i64.wrap (8 - (Int.tmod t17_7 8))))))))) (IntKind.u8.wrap ((ishl .u8 1 ((if n2_4 < (IntKind.i64.wrap (8 - (Int.tmod t17_7 8))) then n2_4 else (IntKind.i64.wrap (8 - (Int.tmod t17_7 8)))))) - 1))) : Value) rfl rfl rfl (fun _ => by kernel_rfl) ?_
      refine q_nil (hQq20 _ fun m39 => ?_)
      replace h := h _ ⟨m39, rfl⟩
      generalize w_15.drewN m39 = w_16 at h ⊢
      refine y_then (hK19 _ _ ?_)
      refine y_seq fun K23 hK23 => ?_
      obtain ⟨w_17, hwd24⟩ : ∃ wd : World, wd = w_16.drew := ⟨_, rfl⟩
      replace h := h _ hwd24
      refine t_region (wd := w_17) [] (by kernel_rfl) hwd24 SF_nil fun Q24 hE24 hp24 hS => ?_
      clear hwd24
      refine t_kw hp24 hS 0 (.pointer w0_1 : Value) rfl (wanted_none rfl) rfl rfl (by kernel_rfl) (fun _ _ => by kernel_rfl) fun hS => ?_
      obtain ⟨a_18, hx25, h⟩ := h
      refine t_kw hp24 hS 1 (.pointer (some a_18) : Value) rfl (wanted_none rfl) rfl rfl (by kernel_rfl) (fun _ _ => run_nilCheck hx25 rfl) fun hS => ?_
      refine t_kw hp24 hS 2 (.pointer (some a_18) : Value) rfl (wanted_none rfl) rfl rfl (by kernel_rfl) (fun _ _ => by kernel_rfl) fun hS => ?_
      obtain ⟨t47_19, hx26, h⟩ := h
      refine t_add ⟨3, [19], fun wx => wx.cell? a_18 = some (.slice t47_19.a t47_19.n t47_19.c)⟩ ?_
      replace hS := SF_on (x := ⟨3, [19], fun wx => wx.cell? a_18 = some (.slice t47_19.a t47_19.n t47_19.c)⟩) hx26 hS
      refine t_v (s := Instr.loadAt 22 (.pointer (some a_18))) hp24 hS 3 (.slice t47_19.a t47_19.n t47_19.c : Value) rfl (wanted_none rfl) rfl rfl (by kernel_rfl) (by kernel_rfl) (fun _ hw => rn_load (by kernel_rfl) (Sw.fact (List.Mem.head _) rfl hw)) fun hS => ?_
      refine t_kw hp24 hS 4 (.pointer w0_1 : Value) rfl (wanted_none rfl) rfl rfl (by kernel_rfl) (fun _ _ => by kernel_rfl) fun hS => ?_
      obtain ⟨a_20, hx27, h⟩ := h
      refine t_kw hp24 hS 5 (.pointer (some a_20) : Value) rfl (wanted_none rfl) rfl rfl (by kernel_rfl) (fun _ _ => run_nilCheck hx27 rfl) fun hS => ?_
      refine t_kw hp24 hS 6 (.pointer (some a_20) : Value) rfl (wanted_none rfl) rfl rfl (by kernel_rfl) (fun _ _ => by kernel_rfl) fun hS => ?_
      obtain ⟨t51_21, hx28, h⟩ := h
      refine t_add ⟨7, [19], fun wx => wx.cell? a_20 = some (.slice t51_21.a t51_21.n t51_21.c)⟩ ?_
      replace hS := SF_on (x := ⟨7, [19], fun wx => wx.cell? a_20 = some (.slice t51_21.a t51_21.n t51_21.c)⟩) hx28 hS
      refine t_v (s := Instr.loadAt 22 (.pointer (some a_20))) hp24 hS 7 (.slice t51_21.a t51_21.n t51_21.c : Value) rfl (wanted_none rfl) rfl rfl (by kernel_rfl) (by kernel_rfl) (fun _ hw => rn_load (by kernel_rfl) (Sw.fact (List.Mem.head _) rfl hw)) fun hS => ?_
      refine t_kw hp24 hS 8 (.int .i64 ((t51_21.n : Int)) : Value) rfl (wanted_none rfl) rfl rfl (by kernel_rfl) (fun _ _ => by kernel_rfl) fun hS => ?_
      refine t_kw hp24 hS 9 (.int .i64 (IntKind.i64.wrap (((t51_21.n : Int)) - 1)) : Value) rfl (wanted_none rfl) rfl rfl (by kernel_rfl) (fun _ _ => by kernel_rfl) fun hS => ?_
      obtain ⟨hx29a, hx29b, a_22, hx29, h⟩ := h
      refine t_v (s := Instr.indexAt 22 (.slice t47_19.a t47_19.n t47_19.c : Value) (.int .i64 (IntKind.i64.wrap (((t51_21.n : Int)) - 1)) : Value)) hp24 hS 10 (.pointer (some (a_22.add (Int.toNat (IntKind.i64.wrap (((t51_21.n : Int)) - 1))))) : Value) rfl (wanted_none rfl) rfl rfl (by kernel_rfl) (by kernel_rfl) (fun _ _ => run_ixs1 (el := 5) (by kernel_rfl) (by kernel_rfl) hx29 hx29a hx29b) fun hS => ?_
      obtain ⟨t55_23, hx30, h⟩ := h
      refine t_add ⟨11, [19], fun wx => wx.cell? (a_22.add (Int.toNat (IntKind.i64.wrap (((t51_21.n : Int)) - 1)))) = some (.int .u8 t55_23)⟩ ?_
      replace hS := SF_on (x := ⟨11, [19], fun wx => wx.cell? (a_22.add (Int.toNat (IntKind.i64.wrap (((t51_21.n : Int)) - 1)))) = some (.int .u8 t55_23)⟩) hx30 hS
      refine t_v (s := Instr.loadAt 5 (.pointer (some (a_22.add (Int.toNat (IntKind.i64.wrap (((t51_21.n : Int)) - 1))))))) hp24 hS 11 (.int .u8 t55_23 : Value) rfl (wanted_none rfl) rfl rfl (by kernel_rfl) (by kernel_rfl) (fun _ hw => rn_load (by kernel_rfl) (Sw.fact (List.Mem.head _) rfl hw)) fun hS => ?_
      refine t_kw hp24 hS 12 (.int .u8 (ibits .and .u8 (IntKind.u8.wrap (ishr .u64 v1_2 (IntKind.i64.wrap (n2_4 - ((if n2_4 < (IntKind.i64.wrap (8 - (Int.tmod t17_7 8))) then n2_4 else (IntKind.i64.wrap (8 - (Int.tmod t17_7 8))))))))) (IntKind.u8.wrap ((ishl .u8 1 ((if n2_4 < (IntKind.i64.wrap (8 - (Int.tmod t17_7 8))) then n2_4 else (IntKind.i64.wrap (8 - (Int.tmod t17_7 8)))))) - 1))) : Value) rfl (wanted_none rfl) rfl rfl (by kernel_rfl) (fun _ _ => by kernel_rfl) fun hS => ?_
      refine t_kw hp24 hS 13 (.int .i64 (IntKind.i64.wrap (8 - (Int.tmod t17_7 8))) : Value) rfl (wanted_none rfl) rfl rfl (by kernel_rfl) (fun _ _ => by kernel_rfl) fun hS => ?_
      refine t_kw hp24 hS 14 (.int .i64 ((if n2_4 < (IntKind.i64.wrap (8 - (Int.tmod t17_7 8))) then n2_4 else (IntKind.i64.wrap (8 - (Int.tmod t17_7 8))))) : Value) rfl (wanted_none rfl) rfl rfl (by kernel_rfl) (fun _ _ => by kernel_rfl) fun hS => ?_
      refine t_kw hp24 hS 15 (.int .i64 (IntKind.i64.wrap ((IntKind.i64.wrap (8 - (Int.tmod t17_7 8))) - ((if n2_4 < (IntKind.i64.wrap (8 - (Int.tmod t17_7 8))) then n2_4 else (IntKind.i64.wrap (8 - (Int.tmod t17_7 8))))))) : Value) rfl (wanted_none rfl) rfl rfl (by kernel_rfl) (fun _ _ => by kernel_rfl) fun hS => ?_
      obtain ⟨hx31, h⟩ := h
      refine t_kw hp24 hS 16 (.int .u8 (ishl .u8 (ibits .and .u8 (IntKind.u8.wrap (ishr .u64 v1_2 (IntKind.i64.wrap (n2_4 - ((if n2_4 < (IntKind.i64.wrap (8 - (Int.tmod t17_7 8))) then n2_4 else (IntKind.i64.wrap (8 - (Int.tmod t17_7 8))))))))) (IntKind.u8.wrap ((ishl .u8 1 ((if n2_4 < (IntKind.i64.wrap (8 - (Int.tmod t17_7 8))) then n2_4 else (IntKind.i64.wrap (8 - (Int.tmod t17_7 8)))))) - 1))) (IntKind.i64.wrap ((IntKind.i64.wrap (8 - (Int.tmod t17_7 8))) - ((if n2_4 < (IntKind.i64.wrap (8 - (Int.tmod t17_7 8))) then n2_4 else (IntKind.i64.wrap (8 - (Int.tmod t17_7 8)))))))) : Value) rfl (wanted_none rfl) rfl rfl (by kernel_rfl) (fun _ _ => run_shl hx31 rfl rfl) fun hS => ?_
      refine t_kw hp24 hS 17 (.int .u8 (ibits .or .u8 t55_23 (ishl .u8 (ibits .and .u8 (IntKind.u8.wrap (ishr .u64 v1_2 (IntKind.i64.wrap (n2_4 - ((if n2_4 < (IntKind.i64.wrap (8 - (Int.tmod t17_7 8))) then n2_4 else (IntKind.i64.wrap (8 - (Int.tmod t17_7 8))))))))) (IntKind.u8.wrap ((ishl .u8 1 ((if n2_4 < (IntKind.i64.wrap (8 - (Int.tmod t17_7 8))) then n2_4 else (IntKind.i64.wrap (8 - (Int.tmod t17_7 8)))))) - 1))) (IntKind.i64.wrap ((IntKind.i64.wrap (8 - (Int.tmod t17_7 8))) - ((if n2_4 < (IntKind.i64.wrap (8 - (Int.tmod t17_7 8))) then n2_4 else (IntKind.i64.wrap (8 - (Int.tmod t17_7 8))))))))) : Value) rfl (wanted_none rfl) rfl rfl (by kernel_rfl) (fun _ _ => by kernel_rfl) fun hS => ?_
      obtain ⟨hx32a, hx32b, a_24, hx32, h⟩ := h
      refine t_v (s := Instr.indexAt 22 (.slice t47_19.a t47_19.n t47_19.c : Value) (.int .i64 (IntKind.i64.wrap (((t51_21.n : Int)) - 1)) : Value)) hp24 hS 18 (.pointer (some (a_24.add (Int.toNat (IntKind.i64.wrap (((t51_21.n : Int)) - 1))))) : Value) rfl (wanted_none rfl) rfl rfl (by kernel_rfl) (by kernel_rfl) (fun _ _ => run_ixs1 (el := 5) (by kernel_rfl) (by kernel_rfl) hx32 hx32a hx32b) fun hS => ?_
      obtain ⟨hx33, h⟩ := h
      replace h := h _ rfl
      refine t_u 19 (s := Instr.storeAt 5 (.pointer (some (a_24.add (Int.toNat (IntKind.i64.wrap (((t51_21.n : Int)) - 1)))))) (.int .u8 (ibits .or .u8 t55_23 (ishl .u8 (ibits .and .u8 (IntKind.u8.wrap (ishr .u64 v1_2 (IntKind.i64.wrap (n2_4 - ((if n2_4 < (IntKind.i64.wrap (8 - (Int.tmod t17_7 8))) then n2_4 else (IntKind.i64.wrap (8 - (Int.tmod t17_7 8))))))))) (IntKind.u8.wrap ((ishl .u8 1 ((if n2_4 < (IntKind.i64.wrap (8 - (Int.tmod t17_7 8))) then n2_4 else (IntKind.i64.wrap (8 - (Int.tmod t17_7 8)))))) - 1))) (IntKind.i64.wrap ((IntKind.i64.wrap (8 - (Int.tmod t17_7 8))) - ((if n2_4 < (IntKind.i64.wrap (8 - (Int.tmod t17_7 8))) then n2_4 else (IntKind.i64.wrap (8 - (Int.tmod t17_7 8))))))))) : Value)) (by kernel_rfl) rfl (wanted_none rfl) rfl (by kernel_rfl) (rn_store1 (by kernel_rfl) rfl hx33) (SF_off (by kernel_rfl) (by kernel_rfl) (SF_off (by kernel_rfl) (by kernel_rfl) (SF_off (by kernel_rfl) (by kernel_rfl) SF_nil))) fun hS => ?_
      generalize w_17.setCell (a_24.add (Int.toNat (IntKind.i64.wrap (((t51_21.n : Int)) - 1)))) (.int .u8 (ibits .or .u8 t55_23 (ishl .u8 (ibits .and .u8 (IntKind.u8.wrap (ishr .u64 v1_2 (IntKind.i64.wrap (n2_4 - ((if n2_4 < (IntKind.i64.wrap (8 - (Int.tmod t17_7 8))) then n2_4 else (IntKind.i64.wrap (8 - (Int.tmod t17_7 8))))))))) (IntKind.u8.wrap ((ishl .u8 1 ((if n2_4 < (IntKind.i64.wrap (8 - (Int.tmod t17_7 8))) then n2_4 else (IntKind.i64.wrap (8 - (Int.tmod t17_7 8)))))) - 1))) (IntKind.i64.wrap ((IntKind.i64.wrap (8 - (Int.tmod t17_7 8))) - ((if n2_4 < (IntKind.i64.wrap (8 - (Int.tmod t17_7 8))) then n2_4 else (IntKind.i64.wrap (8 - (Int.tmod t17_7 8))))))))) : Value) = w_25 at hS h ⊢
      refine t_done (by kernel_rfl) (hE24 _ _ ?_)
      refine y_then (hK23 _ _ ?_)
      refine y_seq fun K34 hK34 => ?_
      refine y_region ?_
      refine y_k (.pointer w0_1 : Value) w_25 rfl rfl rfl (by kernel_rfl) ?_
      obtain ⟨a_26, hx35, h⟩ := h
      refine y_k (.pointer (some a_26) : Value) w_25 rfl rfl rfl (run_nilCheck hx35 rfl) ?_
      refine y_k (.pointer (some (a_26.add 1)) : Value) w_25 rfl rfl rfl (by kernel_rfl) ?_
      obtain ⟨t66_27, hx36, h⟩ := h
      refine y_v (s := Instr.loadAt 3 (.pointer (some (a_26.add 1)))) rfl rfl rfl (by kernel_rfl) (rn_load (by kernel_rfl) hx36) ?_
      refine y_k (.int .i64 ((if n2_4 < (IntKind.i64.wrap (8 - (Int.tmod t17_7 8))) then n2_4 else (IntKind.i64.wrap (8 - (Int.tmod t17_7 8))))) : Value) w_25 rfl rfl rfl (by kernel_rfl) ?_
      refine y_k (.int .i64 (IntKind.i64.wrap (t66_27 + ((if n2_4 < (IntKind.i64.wrap (8 - (Int.tmod t17_7 8))) then n2_4 else (IntKind.i64.wrap (8 - (Int.tmod t17_7 8))))))) : Value) w_25 rfl rfl rfl (by kernel_rfl) ?_
      obtain ⟨a_28, hx37, h⟩ := h
      refine y_k (.pointer (some a_28) : Value) w_25 rfl rfl rfl (run_nilCheck hx37 rfl) ?_
      refine y_k (.pointer (some (a_28.add 1)) : Value) w_25 rfl rfl rfl (by kernel_rfl) ?_
      obtain ⟨hx38, h⟩ := h
      replace h := h _ rfl
      refine y_u (s := Instr.storeAt 3 (.pointer (some (a_28.add 1))) (.int .i64 (IntKind.i64.wrap (t66_27 + ((if n2_4 < (IntKind.i64.wrap (8 - (Int.tmod t17_7 8))) then n2_4 else (IntKind.i64.wrap (8 - (Int.tmod t17_7 8))))))) : Value)) rfl rfl (by kernel_rfl) (rn_store1 (by kernel_rfl) rfl hx38) ?_
      generalize w_25.setCell (a_28.add 1) (.int .i64 (IntKind.i64.wrap (t66_27 + ((if n2_4 < (IntKind.i64.wrap (8 - (Int.tmod t17_7 8))) then n2_4 else (IntKind.i64.wrap (8 - (Int.tmod t17_7 8))))))) : Value) = w_29 at h ⊢
      refine y_nil ?_
      refine y_then (hK34 _ _ ?_)
      refine y_region ?_
      refine y_k (.int .i64 n2_4 : Value) w_29 rfl rfl rfl (by kernel_rfl) ?_
      refine y_k (.int .i64 ((if n2_4 < (IntKind.i64.wrap (8 - (Int.tmod t17_7 8))) then n2_4 else (IntKind.i64.wrap (8 - (Int.tmod t17_7 8))))) : Value) w_29 rfl rfl rfl (by kernel_rfl) ?_
      refine y_k (.int .i64 (IntKind.i64.wrap (n2_4 - ((if n2_4 < (IntKind.i64.wrap (8 - (Int.tmod t17_7 8))) then n2_4 else (IntKind.i64.wrap (8 - (Int.tmod t17_7 8))))))) : Value) w_29 rfl rfl rfl (by kernel_rfl) ?_
      refine y_k (.int .i64 (IntKind.i64.wrap (n2_4 - ((if n2_4 < (IntKind.i64.wrap (8 - (Int.tmod t17_7 8))) then n2_4 else (IntKind.i64.wrap (8 - (Int.tmod t17_7 8))))))) : Value) w_29 rfl rfl rfl (by kernel_rfl) ?_
      refine y_nil ?_
      refine e_block_n ?_
      refine y_then (hN4 (IntKind.i64.wrap (n2_4 - ((if n2_4 < (IntKind.i64.wrap (8 - (Int.tmod t17_7 8))) then n2_4 else (IntKind.i64.wrap (8 - (Int.tmod t17_7 8))))))) _ _ h ?_)
      dsimp only
      refine upd_id ?_ rfl
      refine upd_id ?_ rfl
      refine upd_id ?_ rfl
      rfl
    refine y_seq fun K12 hK12 => ?_
    refine y_region ?_
    refine y_k (.int .i64 (IntKind.i64.wrap (8 - (Int.tmod t17_7 8))) : Value) w_5 rfl rfl rfl (by kernel_rfl) ?_
    refine y_k (.bool ((((IntKind.i64.wrap (8 - (Int.tmod t17_7 8)))) == 8)) : Value) w_5 rfl rfl rfl (by kernel_rfl) ?_
    refine y_nil ?_
    refine y_then (hK12 _ _ ?_)
    refine y_cond ((((IntKind.i64.wrap (8 - (Int.tmod t17_7 8)))) == 8)) rfl rfl (fun hb40 => ?_) (fun hb40 => ?_)
    · replace h := h.1 (eq_of_beq hb40)
      refine y_region ?_
      refine y_k (.pointer w0_1 : Value) w_5 rfl rfl rfl (by kernel_rfl) ?_
      refine y_k (.pointer w0_1 : Value) w_5 rfl rfl rfl (by kernel_rfl) ?_
      obtain ⟨a_8, hx13, h⟩ := h
      refine y_k (.pointer (some a_8) : Value) w_5 rfl rfl rfl (run_nilCheck hx13 rfl) ?_
      refine y_k (.pointer (some a_8) : Value) w_5 rfl rfl rfl (by kernel_rfl) ?_
      obtain ⟨t26_9, hx14, h⟩ := h
      refine y_v (s := Instr.loadAt 22 (.pointer (some a_8))) rfl rfl rfl (by kernel_rfl) (rn_load (by kernel_rfl) hx14) ?_
      refine y_k (.slice (some ⟨w_5.heap.size, 0, none⟩) 1 1 : Value) (w_5.alloc (.cells #[.int .u8 0] 5)) rfl rfl rfl (by kernel_rfl) ?_
      replace h := h _ rfl
      generalize w_5.alloc (.cells #[.int .u8 0] 5) = w_10 at h ⊢
      obtain ⟨t28_11, w_12, hx15, h⟩ := h
      refine y_v (s := Builtin.append_ #[22, 22] 22 #[.slice t26_9.a t26_9.n t26_9.c, .slice (some ⟨w_5.heap.size, 0, none⟩) 1 1]) rfl rfl rfl (by kernel_rfl) hx15 ?_
      obtain ⟨a_13, hx16, h⟩ := h
      refine y_k (.pointer (some a_13) : Value) w_12 rfl rfl rfl (run_nilCheck hx16 rfl) ?_
      refine y_k (.pointer (some a_13) : Value) w_12 rfl rfl rfl (by kernel_rfl) ?_
      obtain ⟨hx17, h⟩ := h
      replace h := h _ rfl
      refine y_u (s := Instr.storeAt 22 (.pointer (some a_13)) (.slice t28_11.a t28_11.n t28_11.c : Value)) rfl rfl (by kernel_rfl) (rn_store1 (by kernel_rfl) rfl hx17) ?_
      generalize w_12.setCell a_13 (.slice t28_11.a t28_11.n t28_11.c : Value) = w_14 at h ⊢
      refine y_nil ?_
      exact y_then (hjK11 _ w_14 rfl rfl rfl rfl h)
    · replace h := h.2 (beq_eq_false_iff_ne.mp hb40)
      refine y_skip ?_
      exact y_then (hjK11 _ w_5 rfl rfl rfl rfl h)
  · replace h := h.2 (of_decide_eq_false hb41)
    refine y_exit ?_
    repeat (first | refine e_then_x ?_ | refine e_block_y rfl ?_)
    refine e_block_x ?_
    exact (hQ0 _ _ _ (res0 rfl) ⟨rfl, h⟩).2

/-- (*turnkey/bits.Writer).Len -/
def F44 (w0_1 : Option Addr) (K : Int → World → Prop) (w : World) : Prop :=
  ∃ (a_2 : Addr), w0_1 = some a_2 ∧
  ∃ (t6_3 : Int), w.cell? (a_2.add 1) = some (.int .i64 t6_3) ∧
  K t6_3 w
set_option maxHeartbeats 4000000 in
set_option maxRecDepth 20000 in
theorem F44_sound (w0_1 : Option Addr) (K : Int → World → Prop) (w : World) (h : F44 w0_1 K w) :
    Calls Try.prog 44 #[.pointer w0_1] w (fun e w1 => ∃ (r0 : Int), e = .returned (.int .i64 r0 : Value) ∧ K r0 w1) := by
  unfold F44 at h
  refine y_enter (n := 7) (args := [.pointer w0_1]) Try.func44 rfl rfl rfl fun Q0 hQ0 => ?_
  refine y_seq fun K1 hK1 => ?_
  refine y_region ?_
  refine y_k (.int .i64 0 : Value) w rfl rfl rfl (by kernel_rfl) ?_
  refine y_nil ?_
  refine y_then (hK1 _ _ ?_)
  refine y_seq fun K2 hK2 => ?_
  refine y_region ?_
  refine y_k (.pointer w0_1 : Value) w rfl rfl rfl (by kernel_rfl) ?_
  obtain ⟨a_2, hx3, h⟩ := h
  refine y_k (.pointer (some a_2) : Value) w rfl rfl rfl (run_nilCheck hx3 rfl) ?_
  refine y_k (.pointer (some (a_2.add 1)) : Value) w rfl rfl rfl (by kernel_rfl) ?_
  obtain ⟨t6_3, hx4, h⟩ := h
  refine y_v (s := Instr.loadAt 3 (.pointer (some (a_2.add 1)))) rfl rfl rfl (by kernel_rfl) (rn_load (by kernel_rfl) hx4) ?_
  refine y_k (.int .i64 t6_3 : Value) w rfl rfl rfl (by kernel_rfl) ?_
  refine y_nil ?_
  refine y_then (hK2 _ _ ?_)
  refine y_ret ?_
  repeat (first | refine e_then_r ?_ | refine e_block_r ?_)
  exact (hQ0 _ _ _ (res1 (v := (.int .i64 t6_3 : Value)) rfl rfl rfl) ⟨_, rfl, h⟩).1

/-- (*turnkey/bits.Writer).Cut -/
def F45 (w0_1 : Option Addr) (n1_2 : Int) (K : World → Prop) (w : World) : Prop :=
  ∃ (a_3 : Addr), w0_1 = some a_3 ∧
  ∃ (t11_4 : Int), w.cell? (a_3.add 1) = some (.int .i64 t11_4) ∧
  ((((if 0 > n1_2 then 0 else n1_2)) ≥ t11_4 →
  K w) ∧
  (¬ (((if 0 > n1_2 then 0 else n1_2)) ≥ t11_4) →
  ∃ (a_5 : Addr), w0_1 = some a_5 ∧
  ∃ (t19_6 : Sl), w.cell? a_5 = some (.slice t19_6.a t19_6.n t19_6.c) ∧
  ∃ (t21_7 : Sl), (Instr.sliceAt 22 (.slice t19_6.a t19_6.n t19_6.c : Value) (some (.int .i64 (IntKind.i64.wrap (Int.tdiv (IntKind.i64.wrap (((if 0 > n1_2 then 0 else n1_2)) + 7)) 8)) : Value)) none none).run Try.prog w = .ok (.slice t21_7.a t21_7.n t21_7.c : Value) w ∧
  ∃ (w0_8 : Value), ∃ (w_9 : World), (Builtin.clear_ #[22] 0 #[.slice t21_7.a t21_7.n t21_7.c]).run Try.prog w = .ok w0_8 w_9 ∧
  ∃ (a_10 : Addr), w0_1 = some a_10 ∧
  ∃ (t27_11 : Sl), w_9.cell? a_10 = some (.slice t27_11.a t27_11.n t27_11.c) ∧
  ∃ (t29_12 : Sl), (Instr.sliceAt 22 (.slice t27_11.a t27_11.n t27_11.c : Value) none (some (.int .i64 (IntKind.i64.wrap (Int.tdiv (IntKind.i64.wrap (((if 0 > n1_2 then 0 else n1_2)) + 7)) 8)) : Value)) none).run Try.prog w_9 = .ok (.slice t29_12.a t29_12.n t29_12.c : Value) w_9 ∧
  ∃ (a_13 : Addr), w0_1 = some a_13 ∧
  HasCell w_9 a_13 ∧ ∀ (w_14 : World), w_14 = w_9.setCell a_13 (.slice t29_12.a t29_12.n t29_12.c : Value) →
  ∃ (a_15 : Addr), w0_1 = some a_15 ∧
  HasCell w_14 (a_15.add 1) ∧ ∀ (w_16 : World), w_16 = w_14.setCell (a_15.add 1) (.int .i64 ((if 0 > n1_2 then 0 else n1_2)) : Value) →
  (((Int.tmod ((if 0 > n1_2 then 0 else n1_2)) 8) > 0 →
  ∀ (w_17 : World), w_17 = w_16.drew →
  ∃ (a_18 : Addr), w0_1 = some a_18 ∧
  ∃ (t41_19 : Sl), w_17.cell? a_18 = some (.slice t41_19.a t41_19.n t41_19.c) ∧
  (0 : Int) ≤ (IntKind.i64.wrap ((IntKind.i64.wrap (Int.tdiv (IntKind.i64.wrap (((if 0 > n1_2 then 0 else n1_2)) + 7)) 8)) - 1)) ∧ (IntKind.i64.wrap ((IntKind.i64.wrap (Int.tdiv (IntKind.i64.wrap (((if 0 > n1_2 then 0 else n1_2)) + 7)) 8)) - 1)) < (t41_19.n : Int) ∧ ∃ (a_20 : Addr), t41_19.a = some a_20 ∧
  ∃ (t45_21 : Int), w_17.cell? (a_20.add (Int.toNat (IntKind.i64.wrap ((IntKind.i64.wrap (Int.tdiv (IntKind.i64.wrap (((if 0 > n1_2 then 0 else n1_2)) + 7)) 8)) - 1)))) = some (.int .u8 t45_21) ∧
  (0 : Int) ≤ (IntKind.i64.wrap (8 - (Int.tmod ((if 0 > n1_2 then 0 else n1_2)) 8))) ∧
  (0 : Int) ≤ (IntKind.i64.wrap ((IntKind.i64.wrap (Int.tdiv (IntKind.i64.wrap (((if 0 > n1_2 then 0 else n1_2)) + 7)) 8)) - 1)) ∧ (IntKind.i64.wrap ((IntKind.i64.wrap (Int.tdiv (IntKind.i64.wrap (((if 0 > n1_2 then 0 else n1_2)) + 7)) 8)) - 1)) < (t41_19.n : Int) ∧ ∃ (a_22 : Addr), t41_19.a = some a_22 ∧
  HasCell w_17 (a_22.add (Int.toNat (IntKind.i64.wrap ((IntKind.i64.wrap (Int.tdiv (IntKind.i64.wrap (((if 0 > n1_2 then 0 else n1_2)) + 7)) 8)) - 1)))) ∧ ∀ (w_23 : World), w_23 = w_17.setCell (a_22.add (Int.toNat (IntKind.i64.wrap ((IntKind.i64.wrap (Int.tdiv (IntKind.i64.wrap (((if 0 > n1_2 then 0 else n1_2)) + 7)) 8)) - 1)))) (.int .u8 (ibits .and .u8 t45_21 (ishl .u8 255 (IntKind.i64.wrap (8 - (Int.tmod ((if 0 > n1_2 then 0 else n1_2)) 8))))) : Value) → 
  K w_23) ∧
  (¬ ((Int.tmod ((if 0 > n1_2 then 0 else n1_2)) 8) > 0) →
  K w_16))))
set_option maxHeartbeats 4000000 in
set_option maxRecDepth 20000 in
theorem F45_sound (w0_1 : Option Addr) (n1_2 : Int) (K : World → Prop) (w : World) (h : F45 w0_1 n1_2 K w) :
    Calls Try.prog 45 #[.pointer w0_1, .int .i64 n1_2] w (fun e w1 => e = .returned (.tuple #[]) ∧ K  w1) := by
  unfold F45 at h
  refine y_enter (n := 52) (args := [.pointer w0_1, .int .i64 n1_2]) Try.func45 rfl rfl rfl fun Q0 hQ0 => ?_
  refine y_seq fun K1 hK1 => ?_
  refine y_region ?_
  refine y_k (.int .i64 n1_2 : Value) w rfl rfl rfl (by kernel_rfl) ?_
  refine y_v (v := (.int .i64 ((if 0 > n1_2 then 0 else n1_2)) : Value)) (s := Builtin.max_ #[3, 3] 3 #[.int .i64 n1_2, .int .i64 0]) rfl rfl rfl (by kernel_rfl) (run_max2) ?_
  refine y_k (.int .i64 ((if 0 > n1_2 then 0 else n1_2)) : Value) w rfl rfl rfl (by kernel_rfl) ?_
  refine y_nil ?_
  refine y_then (hK1 _ _ ?_)
  refine y_seq fun K2 hK2 => ?_
  refine y_seq fun K3 hK3 => ?_
  refine y_region ?_
  refine y_k (.int .i64 ((if 0 > n1_2 then 0 else n1_2)) : Value) w rfl rfl rfl (by kernel_rfl) ?_
  refine y_k (.pointer w0_1 : Value) w rfl rfl rfl (by kernel_rfl) ?_
  obtain ⟨a_3, hx4, h⟩ := h
  refine y_k (.pointer (some a_3) : Value) w rfl rfl rfl (run_nilCheck hx4 rfl) ?_
  refine y_k (.pointer (some (a_3.add 1)) : Value) w rfl rfl rfl (by kernel_rfl) ?_
  obtain ⟨t11_4, hx5, h⟩ := h
  refine y_v (s := Instr.loadAt 3 (.pointer (some (a_3.add 1)))) rfl rfl rfl (by kernel_rfl) (rn_load (by kernel_rfl) hx5) ?_
  refine y_k (.bool (decide (((if 0 > n1_2 then 0 else n1_2)) ≥ t11_4)) : Value) w rfl rfl rfl (by kernel_rfl) ?_
  refine y_nil ?_
  refine y_then (hK3 _ _ ?_)
  refine y_cond (decide (((if 0 > n1_2 then 0 else n1_2)) ≥ t11_4)) rfl rfl (fun hb30 => ?_) (fun hb30 => ?_)
  · replace h := h.1 (of_decide_eq_true hb30)
    refine y_ret ?_
    repeat (first | refine e_then_r ?_ | refine e_block_r ?_)
    exact (hQ0 _ _ _ (res0 rfl) ⟨rfl, h⟩).1
  · replace h := h.2 (of_decide_eq_false hb30)
    refine y_skip ?_
    refine y_then (hK2 _ _ ?_)
    refine y_seq fun K6 hK6 => ?_
    refine y_region ?_
    refine y_k (.int .i64 ((if 0 > n1_2 then 0 else n1_2)) : Value) w rfl rfl rfl (by kernel_rfl) ?_
    refine y_k (.int .i64 (IntKind.i64.wrap (((if 0 > n1_2 then 0 else n1_2)) + 7)) : Value) w rfl rfl rfl (by kernel_rfl) ?_
    refine y_k (.int .i64 (IntKind.i64.wrap (Int.tdiv (IntKind.i64.wrap (((if 0 > n1_2 then 0 else n1_2)) + 7)) 8)) : Value) w rfl rfl rfl (by kernel_rfl) ?_
    refine y_k (.int .i64 (IntKind.i64.wrap (Int.tdiv (IntKind.i64.wrap (((if 0 > n1_2 then 0 else n1_2)) + 7)) 8)) : Value) w rfl rfl rfl (by kernel_rfl) ?_
    refine y_nil ?_
    refine y_then (hK6 _ _ ?_)
    refine y_seq fun K7 hK7 => ?_
    refine y_region ?_
    refine y_k (.pointer w0_1 : Value) w rfl rfl rfl (by kernel_rfl) ?_
    obtain ⟨a_5, hx8, h⟩ := h
    refine y_k (.pointer (some a_5) : Value) w rfl rfl rfl (run_nilCheck hx8 rfl) ?_
    refine y_k (.pointer (some a_5) : Value) w rfl rfl rfl (by kernel_rfl) ?_
    obtain ⟨t19_6, hx9, h⟩ := h
    refine y_v (s := Instr.loadAt 22 (.pointer (some a_5))) rfl rfl rfl (by kernel_rfl) (rn_load (by kernel_rfl) hx9) ?_
    refine y_k (.int .i64 (IntKind.i64.wrap (Int.tdiv (IntKind.i64.wrap (((if 0 > n1_2 then 0 else n1_2)) + 7)) 8)) : Value) w rfl rfl rfl (by kernel_rfl) ?_
    obtain ⟨t21_7, hx10, h⟩ := h
    refine y_v (s := Instr.sliceAt 22 (.slice t19_6.a t19_6.n t19_6.c : Value) (some (.int .i64 (IntKind.i64.wrap (Int.tdiv (IntKind.i64.wrap (((if 0 > n1_2 then 0 else n1_2)) + 7)) 8)) : Value)) none none) rfl rfl rfl (by kernel_rfl) (hx10) ?_
    obtain ⟨w0_8, w_9, hx11, h⟩ := h
    refine y_vn (s := Builtin.clear_ #[22] 0 #[.slice t21_7.a t21_7.n t21_7.c]) rfl rfl (by kernel_rfl) hx11 ?_
    refine y_nil ?_
    refine y_then (hK7 _ _ ?_)
    refine y_seq fun K12 hK12 => ?_
    refine y_region ?_
    refine y_k (.pointer w0_1 : Value) w_9 rfl rfl rfl (by kernel_rfl) ?_
    refine y_k (.pointer w0_1 : Value) w_9 rfl rfl rfl (by kernel_rfl) ?_
    refine y_k (.pointer w0_1 : Value) w_9 rfl rfl rfl (by kernel_rfl) ?_
    obtain ⟨a_10, hx13, h⟩ := h
    refine y_k (.pointer (some a_10) : Value) w_9 rfl rfl rfl (run_nilCheck hx13 rfl) ?_
    refine y_k (.pointer (some a_10) : Value) w_9 rfl rfl rfl (by kernel_rfl) ?_
    obtain ⟨t27_11, hx14, h⟩ := h
    refine y_v (s := Instr.loadAt 22 (.pointer (some a_10))) rfl rfl rfl (by kernel_rfl) (rn_load (by kernel_rfl) hx14) ?_
    refine y_k (.int .i64 (IntKind.i64.wrap (Int.tdiv (IntKind.i64.wrap (((if 0 > n1_2 then 0 else n1_2)) + 7)) 8)) : Value) w_9 rfl rfl rfl (by kernel_rfl) ?_
    obtain ⟨t29_12, hx15, h⟩ := h
    refine y_v (s := Instr.sliceAt 22 (.slice t27_11.a t27_11.n t27_11.c : Value) none (some (.int .i64 (IntKind.i64.wrap (Int.tdiv (IntKind.i64.wrap (((if 0 > n1_2 then 0 else n1_2)) + 7)) 8)) : Value)) none) rfl rfl rfl (by kernel_rfl) (hx15) ?_
    refine y_k (.int .i64 ((if 0 > n1_2 then 0 else n1_2)) : Value) w_9 rfl rfl rfl (by kernel_rfl) ?_
    obtain ⟨a_13, hx16, h⟩ := h
    refine y_k (.pointer (some a_13) : Value) w_9 rfl rfl rfl (run_nilCheck hx16 rfl) ?_
    refine y_k (.pointer (some a_13) : Value) w_9 rfl rfl rfl (by kernel_rfl) ?_
    obtain ⟨hx17, h⟩ := h
    replace h := h _ rfl
    refine y_u (s := Instr.storeAt 22 (.pointer (some a_13)) (.slice t29_12.a t29_12.n t29_12.c : Value)) rfl rfl (by kernel_rfl) (rn_store1 (by kernel_rfl) rfl hx17) ?_
    generalize w_9.setCell a_13 (.slice t29_12.a t29_12.n t29_12.c : Value) = w_14 at h ⊢
    obtain ⟨a_15, hx18, h⟩ := h
    refine y_k (.pointer (some a_15) : Value) w_14 rfl rfl rfl (run_nilCheck hx18 rfl) ?_
    refine y_k (.pointer (some (a_15.add 1)) : Value) w_14 rfl rfl rfl (by kernel_rfl) ?_
    obtain ⟨hx19, h⟩ := h
    replace h := h _ rfl
    refine y_u (s := Instr.storeAt 3 (.pointer (some (a_15.add 1))) (.int .i64 ((if 0 > n1_2 then 0 else n1_2)) : Value)) rfl rfl (by kernel_rfl) (rn_store1 (by kernel_rfl) rfl hx19) ?_
    generalize w_14.setCell (a_15.add 1) (.int .i64 ((if 0 > n1_2 then 0 else n1_2)) : Value) = w_16 at h ⊢
    refine y_nil ?_
    refine y_then (hK12 _ _ ?_)
    refine y_seq fun K20 hK20 => ?_
    refine y_region ?_
    refine y_k (.int .i64 ((if 0 > n1_2 then 0 else n1_2)) : Value) w_16 rfl rfl rfl (by kernel_rfl) ?_
    refine y_k (.int .i64 (Int.tmod ((if 0 > n1_2 then 0 else n1_2)) 8) : Value) w_16 rfl rfl rfl (by kernel_rfl) ?_
    refine y_k (.bool (decide ((Int.tmod ((if 0 > n1_2 then 0 else n1_2)) 8) > 0)) : Value) w_16 rfl rfl rfl (by kernel_rfl) ?_
    refine y_nil ?_
    refine y_then (hK20 _ _ ?_)
    refine y_cond (decide ((Int.tmod ((if 0 > n1_2 then 0 else n1_2)) 8) > 0)) rfl rfl (fun hb29 => ?_) (fun hb29 => ?_)
    · replace h := h.1 (of_decide_eq_true hb29)
      obtain ⟨w_17, hwd21⟩ : ∃ wd : World, wd = w_16.drew := ⟨_, rfl⟩
      replace h := h _ hwd21
      refine t_region (wd := w_17) [] (by kernel_rfl) hwd21 SF_nil fun Q21 hE21 hp21 hS => ?_
      clear hwd21
      refine t_kw hp21 hS 0 (.pointer w0_1 : Value) rfl (wanted_none rfl) rfl rfl (by kernel_rfl) (fun _ _ => by kernel_rfl) fun hS => ?_
      obtain ⟨a_18, hx22, h⟩ := h
      refine t_kw hp21 hS 1 (.pointer (some a_18) : Value) rfl (wanted_none rfl) rfl rfl (by kernel_rfl) (fun _ _ => run_nilCheck hx22 rfl) fun hS => ?_
      refine t_kw hp21 hS 2 (.pointer (some a_18) : Value) rfl (wanted_none rfl) rfl rfl (by kernel_rfl) (fun _ _ => by kernel_rfl) fun hS => ?_
      obtain ⟨t41_19, hx23, h⟩ := h
      refine t_add ⟨3, [14], fun wx => wx.cell? a_18 = some (.slice t41_19.a t41_19.n t41_19.c)⟩ ?_
      replace hS := SF_on (x := ⟨3, [14], fun wx => wx.cell? a_18 = some (.slice t41_19.a t41_19.n t41_19.c)⟩) hx23 hS
      refine t_v (s := Instr.loadAt 22 (.pointer (some a_18))) hp21 hS 3 (.slice t41_19.a t41_19.n t41_19.c : Value) rfl (wanted_none rfl) rfl rfl (by kernel_rfl) (by kernel_rfl) (fun _ hw => rn_load (by kernel_rfl) (Sw.fact (List.Mem.head _) rfl hw)) fun hS => ?_
      refine t_kw hp21 hS 4 (.int .i64 (IntKind.i64.wrap (Int.tdiv (IntKind.i64.wrap (((if 0 > n1_2 then 0 else n1_2)) + 7)) 8)) : Value) rfl (wanted_none rfl) rfl rfl (by kernel_rfl) (fun _ _ => by kernel_rfl) fun hS => ?_
      refine t_kw hp21 hS 5 (.int .i64 (IntKind.i64.wrap ((IntKind.i64.wrap (Int.tdiv (IntKind.i64.wrap (((if 0 > n1_2 then 0 else n1_2)) + 7)) 8)) - 1)) : Value) rfl (wanted_none rfl) rfl rfl (by kernel_rfl) (fun _ _ => by kernel_rfl) fun hS => ?_
      obtain ⟨hx24a, hx24b, a_20, hx24, h⟩ := h
      refine t_v (s := Instr.indexAt 22 (.slice t41_19.a t41_19.n t41_19.c : Value) (.int .i64 (IntKind.i64.wrap ((IntKind.i64.wrap (Int.tdiv (IntKind.i64.wrap (((if 0 > n1_2 then 0 else n1_2)) + 7)) 8)) - 1)) : Value)) hp21 hS 6 (.pointer (some (a_20.add (Int.toNat (IntKind.i64.wrap ((IntKind.i64.wrap (Int.tdiv (IntKind.i64.wrap (((if 0 > n1_2 then 0 else n1_2)) + 7)) 8)) - 1))))) : Value) rfl (wanted_none rfl) rfl rfl (by kernel_rfl) (by kernel_rfl) (fun _ _ => run_ixs1 (el := 5) (by kernel_rfl) (by kernel_rfl) hx24 hx24a hx24b) fun hS => ?_
      obtain ⟨t45_21, hx25, h⟩ := h
      refine t_add ⟨7, [14], fun wx => wx.cell? (a_20.add (Int.toNat (IntKind.i64.wrap ((IntKind.i64.wrap (Int.tdiv (IntKind.i64.wrap (((if 0 > n1_2 then 0 else n1_2)) + 7)) 8)) - 1)))) = some (.int .u8 t45_21)⟩ ?_
      replace hS := SF_on (x := ⟨7, [14], fun wx => wx.cell? (a_20.add (Int.toNat (IntKind.i64.wrap ((IntKind.i64.wrap (Int.tdiv (IntKind.i64.wrap (((if 0 > n1_2 then 0 else n1_2)) + 7)) 8)) - 1)))) = some (.int .u8 t45_21)⟩) hx25 hS
      refine t_v (s := Instr.loadAt 5 (.pointer (some (a_20.add (Int.toNat (IntKind.i64.wrap ((IntKind.i64.wrap (Int.tdiv (IntKind.i64.wrap (((if 0 > n1_2 then 0 else n1_2)) + 7)) 8)) - 1))))))) hp21 hS 7 (.int .u8 t45_21 : Value) rfl (wanted_none rfl) rfl rfl (by kernel_rfl) (by kernel_rfl) (fun _ hw => rn_load (by kernel_rfl) (Sw.fact (List.Mem.head _) rfl hw)) fun hS => ?_
      refine t_kw hp21 hS 8 (.int .i64 ((if 0 > n1_2 then 0 else n1_2)) : Value) rfl (wanted_none rfl) rfl rfl (by kernel_rfl) (fun _ _ => by kernel_rfl) fun hS => ?_
      refine t_kw hp21 hS 9 (.int .i64 (Int.tmod ((if 0 > n1_2 then 0 else n1_2)) 8) : Value) rfl (wanted_none rfl) rfl rfl (by kernel_rfl) (fun _ _ => by kernel_rfl) fun hS => ?_
      refine t_kw hp21 hS 10 (.int .i64 (IntKind.i64.wrap (8 - (Int.tmod ((if 0 > n1_2 then 0 else n1_2)) 8))) : Value) rfl (wanted_none rfl) rfl rfl (by kernel_rfl) (fun _ _ => by kernel_rfl) fun hS => ?_
      obtain ⟨hx26, h⟩ := h
      refine t_kw hp21 hS 11 (.int .u8 (ishl .u8 255 (IntKind.i64.wrap (8 - (Int.tmod ((if 0 > n1_2 then 0 else n1_2)) 8)))) : Value) rfl (wanted_none rfl) rfl rfl (by kernel_rfl) (fun _ _ => run_shl hx26 rfl rfl) fun hS => ?_
      refine t_kw hp21 hS 12 (.int .u8 (ibits .and .u8 t45_21 (ishl .u8 255 (IntKind.i64.wrap (8 - (Int.tmod ((if 0 > n1_2 then 0 else n1_2)) 8))))) : Value) rfl (wanted_none rfl) rfl rfl (by kernel_rfl) (fun _ _ => by kernel_rfl) fun hS => ?_
      obtain ⟨hx27a, hx27b, a_22, hx27, h⟩ := h
      refine t_v (s := Instr.indexAt 22 (.slice t41_19.a t41_19.n t41_19.c : Value) (.int .i64 (IntKind.i64.wrap ((IntKind.i64.wrap (Int.tdiv (IntKind.i64.wrap (((if 0 > n1_2 then 0 else n1_2)) + 7)) 8)) - 1)) : Value)) hp21 hS 13 (.pointer (some (a_22.add (Int.toNat (IntKind.i64.wrap ((IntKind.i64.wrap (Int.tdiv (IntKind.i64.wrap (((if 0 > n1_2 then 0 else n1_2)) + 7)) 8)) - 1))))) : Value) rfl (wanted_none rfl) rfl rfl (by kernel_rfl) (by kernel_rfl) (fun _ _ => run_ixs1 (el := 5) (by kernel_rfl) (by kernel_rfl) hx27 hx27a hx27b) fun hS => ?_
      obtain ⟨hx28, h⟩ := h
      replace h := h _ rfl
      refine t_u 14 (s := Instr.storeAt 5 (.pointer (some (a_22.add (Int.toNat (IntKind.i64.wrap ((IntKind.i64.wrap (Int.tdiv (IntKind.i64.wrap (((if 0 > n1_2 then 0 else n1_2)) + 7)) 8)) - 1)))))) (.int .u8 (ibits .and .u8 t45_21 (ishl .u8 255 (IntKind.i64.wrap (8 - (Int.tmod ((if 0 > n1_2 then 0 else n1_2)) 8))))) : Value)) (by kernel_rfl) rfl (wanted_none rfl) rfl (by kernel_rfl) (rn_store1 (by kernel_rfl) rfl hx28) (SF_off (by kernel_rfl) (by kernel_rfl) (SF_off (by kernel_rfl) (by kernel_rfl) SF_nil)) fun hS => ?_
      generalize w_17.setCell (a_22.add (Int.toNat (IntKind.i64.wrap ((IntKind.i64.wrap (Int.tdiv (IntKind.i64.wrap (((if 0 > n1_2 then 0 else n1_2)) + 7)) 8)) - 1)))) (.int .u8 (ibits .and .u8 t45_21 (ishl .u8 255 (IntKind.i64.wrap (8 - (Int.tmod ((if 0 > n1_2 then 0 else n1_2)) 8))))) : Value) = w_23 at hS h ⊢
      refine t_done (by kernel_rfl) (hE21 _ _ ?_)
      exact (hQ0 _ _ _ (res0 rfl) ⟨rfl, h⟩).2
    · replace h := h.2 (of_decide_eq_false hb29)
      refine y_skip ?_
      exact (hQ0 _ _ _ (res0 rfl) ⟨rfl, h⟩).2

/-- (*turnkey/bits.Writer).Bytes -/
def F46 (w0_1 : Option Addr) (K : Sl → World → Prop) (w : World) : Prop :=
  ∃ (a_2 : Addr), w0_1 = some a_2 ∧
  ∃ (t6_3 : Sl), w.cell? a_2 = some (.slice t6_3.a t6_3.n t6_3.c) ∧
  Calls Try.prog 62 #[.slice t6_3.a t6_3.n t6_3.c] w fun e w_5 => ∃ (t7_4 : Sl), e = .returned (.slice t7_4.a t7_4.n t7_4.c : Value) ∧
  K t7_4 w_5
set_option maxHeartbeats 4000000 in
set_option maxRecDepth 20000 in
theorem F46_sound (w0_1 : Option Addr) (K : Sl → World → Prop) (w : World) (h : F46 w0_1 K w) :
    Calls Try.prog 46 #[.pointer w0_1] w (fun e w1 => ∃ (r0 : Sl), e = .returned (.slice r0.a r0.n r0.c : Value) ∧ K r0 w1) := by
  unfold F46 at h
  refine y_enter (n := 8) (args := [.pointer w0_1]) Try.func46 rfl rfl rfl fun Q0 hQ0 => ?_
  refine y_seq fun K1 hK1 => ?_
  refine y_region ?_
  refine y_k (.slice none 0 0 : Value) w rfl rfl rfl (by kernel_rfl) ?_
  refine y_nil ?_
  refine y_then (hK1 _ _ ?_)
  refine y_seq fun K2 hK2 => ?_
  refine y_region ?_
  refine y_k (.pointer w0_1 : Value) w rfl rfl rfl (by kernel_rfl) ?_
  obtain ⟨a_2, hx3, h⟩ := h
  refine y_k (.pointer (some a_2) : Value) w rfl rfl rfl (run_nilCheck hx3 rfl) ?_
  refine y_k (.pointer (some a_2) : Value) w rfl rfl rfl (by kernel_rfl) ?_
  obtain ⟨t6_3, hx4, h⟩ := h
  refine y_v (s := Instr.loadAt 22 (.pointer (some a_2))) rfl rfl rfl (by kernel_rfl) (rn_load (by kernel_rfl) hx4) ?_
  refine y_call rfl rfl rfl (by kernel_rfl) (h.mono ?_)
  rintro _ w_5 ⟨t7_4, rfl, h⟩
  refine ⟨_, rfl, ?_⟩
  refine y_k (.slice t7_4.a t7_4.n t7_4.c : Value) w_5 rfl rfl rfl (by kernel_rfl) ?_
  refine y_nil ?_
  refine y_then (hK2 _ _ ?_)
  refine y_ret ?_
  repeat (first | refine e_then_r ?_ | refine e_block_r ?_)
  exact (hQ0 _ _ _ (res1 (v := (.slice t7_4.a t7_4.n t7_4.c : Value)) rfl rfl rfl) ⟨_, rfl, h⟩).1

def F32_j1 (K : Bool → World → Prop) (t0_37 : Bool) (w_38 : World) : Prop :=
  K t0_37 w_38
/-- turnkey/turnkeylaw03.shown -/
def F32  (K : Bool → World → Prop) (w : World) : Prop :=
  Calls Try.prog 33 #[] w fun e w_2 => ∃ (t14_1 : Option Addr), e = .returned (.pointer t14_1 : Value) ∧
  ((t14_1.isNone = true →
  K false w_2) ∧
  (t14_1.isNone = false →
  Calls Try.prog 43 #[.pointer t14_1, .int .u64 5, .int .i64 3] w_2 fun e w_3 => e = .returned (.tuple #[] : Value) ∧
  Calls Try.prog 43 #[.pointer t14_1, .int .u64 1, .int .i64 1] w_3 fun e w_4 => e = .returned (.tuple #[] : Value) ∧
  Calls Try.prog 43 #[.pointer t14_1, .int .u64 0, .int .i64 0] w_4 fun e w_5 => e = .returned (.tuple #[] : Value) ∧
  Calls Try.prog 46 #[.pointer t14_1] w_5 fun e w_7 => ∃ (t24_6 : Sl), e = .returned (.slice t24_6.a t24_6.n t24_6.c : Value) ∧
  ∃ (t25_8 : ByteArray), (convert 22 9 (.slice t24_6.a t24_6.n t24_6.c : Value)).run Try.prog w_7 = .ok (.string t25_8 : Value) w_7 ∧
  Calls Try.prog 43 #[.pointer t14_1, .int .u64 258, .int .i64 9] w_7 fun e w_9 => e = .returned (.tuple #[] : Value) ∧
  Calls Try.prog 46 #[.pointer t14_1] w_9 fun e w_11 => ∃ (t29_10 : Sl), e = .returned (.slice t29_10.a t29_10.n t29_10.c : Value) ∧
  ∃ (t30_12 : ByteArray), (convert 22 9 (.slice t29_10.a t29_10.n t29_10.c : Value)).run Try.prog w_11 = .ok (.string t30_12 : Value) w_11 ∧
  Calls Try.prog 44 #[.pointer t14_1] w_11 fun e w_14 => ∃ (t32_13 : Int), e = .returned (.int .i64 t32_13 : Value) ∧
  Calls Try.prog 45 #[.pointer t14_1, .int .i64 4] w_14 fun e w_15 => e = .returned (.tuple #[] : Value) ∧
  Calls Try.prog 43 #[.pointer t14_1, .int .u64 255, .int .i64 4] w_15 fun e w_16 => e = .returned (.tuple #[] : Value) ∧
  Calls Try.prog 46 #[.pointer t14_1] w_16 fun e w_18 => ∃ (t38_17 : Sl), e = .returned (.slice t38_17.a t38_17.n t38_17.c : Value) ∧
  ∃ (t39_19 : ByteArray), (convert 22 9 (.slice t38_17.a t38_17.n t38_17.c : Value)).run Try.prog w_18 = .ok (.string t39_19 : Value) w_18 ∧
  ∀ (w_20 : World), w_20 = w_18.alloc (.cells #[.int .u8 184, .int .u8 16] 5) →
  Calls Try.prog 37 #[.slice (some ⟨w_18.heap.size, 0, none⟩) 2 2] w_20 fun e w_22 => ∃ (t41_21 : Option Addr), e = .returned (.pointer t41_21 : Value) ∧
  ((t41_21.isNone = true →
  K false w_22) ∧
  (t41_21.isNone = false →
  Calls Try.prog 39 #[.pointer t41_21, .int .i64 3] w_22 fun e w_25 => ∃ (t46_23 : Int), ∃ (t46_24 : Bool), e = .returned (.tuple #[.int .u64 t46_23, .bool t46_24] : Value) ∧
  Calls Try.prog 39 #[.pointer t41_21, .int .i64 1] w_25 fun e w_28 => ∃ (t50_26 : Int), ∃ (t50_27 : Bool), e = .returned (.tuple #[.int .u64 t50_26, .bool t50_27] : Value) ∧
  Calls Try.prog 39 #[.pointer t41_21, .int .i64 9] w_28 fun e w_31 => ∃ (t53_29 : Int), ∃ (t53_30 : Bool), e = .returned (.tuple #[.int .u64 t53_29, .bool t53_30] : Value) ∧
  Calls Try.prog 41 #[.pointer t41_21] w_31 fun e w_33 => ∃ (t57_32 : Int), e = .returned (.int .i64 t57_32 : Value) ∧
  Calls Try.prog 39 #[.pointer t41_21, .int .i64 4] w_33 fun e w_36 => ∃ (t60_34 : Int), ∃ (t60_35 : Bool), e = .returned (.tuple #[.int .u64 t60_34, .bool t60_35] : Value) ∧
  ((t25_8.toList = (((ByteArray.mk #[176])).toList) →
  ((t30_12.toList = (((ByteArray.mk #[184, 16])).toList) →
  ((t32_13 = 13 →
  ((t39_19.toList = (((ByteArray.mk #[191])).toList) →
  ((t46_23 = 5 →
  ((t46_24 = true →
  ((t53_29 = 258 →
  ((t53_30 = true →
  ((t57_32 = 3 →
  F32_j1 K (!(t60_35)) w_36) ∧
  (¬ t57_32 = 3 →
  F32_j1 K false w_36))) ∧
  (t53_30 = false →
  F32_j1 K false w_36))) ∧
  (¬ t53_29 = 258 →
  F32_j1 K false w_36))) ∧
  (t46_24 = false →
  F32_j1 K false w_36))) ∧
  (¬ t46_23 = 5 →
  F32_j1 K false w_36))) ∧
  (¬ t39_19.toList = (((ByteArray.mk #[191])).toList) →
  F32_j1 K false w_36))) ∧
  (¬ t32_13 = 13 →
  F32_j1 K false w_36))) ∧
  (¬ t30_12.toList = (((ByteArray.mk #[184, 16])).toList) →
  F32_j1 K false w_36))) ∧
  (¬ t25_8.toList = (((ByteArray.mk #[176])).toList) →
  F32_j1 K false w_36))))))
set_option maxHeartbeats 4000000 in
set_option maxRecDepth 20000 in
theorem F32_sound  (K : Bool → World → Prop) (w : World) (h : F32  K w) :
    Calls Try.prog 32 #[] w (fun e w1 => ∃ (r0 : Bool), e = .returned (.bool r0 : Value) ∧ K r0 w1) := by
  unfold F32 at h
  refine y_enter (n := 99) (args := []) Try.func32 rfl rfl rfl fun Q0 hQ0 => ?_
  refine y_seq fun K1 hK1 => ?_
  refine y_region ?_
  refine y_k (.bool false : Value) w rfl rfl rfl (by kernel_rfl) ?_
  refine y_nil ?_
  refine y_then (hK1 _ _ ?_)
  refine y_seq fun K2 hK2 => ?_
  refine y_region ?_
  refine y_call rfl rfl rfl (by kernel_rfl) (h.mono ?_)
  rintro _ w_2 ⟨t14_1, rfl, h⟩
  refine ⟨_, rfl, ?_⟩
  refine y_k (.pointer t14_1 : Value) w_2 rfl rfl rfl (by kernel_rfl) ?_
  refine y_nil ?_
  refine y_then (hK2 _ _ ?_)
  refine y_seq fun K3 hK3 => ?_
  refine y_seq fun K4 hK4 => ?_
  refine y_region ?_
  refine y_k (.pointer t14_1 : Value) w_2 rfl rfl rfl (by kernel_rfl) ?_
  refine y_v (v := (.bool t14_1.isNone : Value)) (s := do eqGuard .eql 60 (Operand.tmp 15) (Operand.const (Value.pointer none)) (.pointer t14_1 : Value) (.pointer none : Value); binOp .eql 60 (.pointer t14_1 : Value) (.pointer none : Value)) rfl rfl rfl (by kernel_rfl) (run_eql_ptrnil (by kernel_rfl)) ?_
  refine y_nil ?_
  refine y_then (hK4 _ _ ?_)
  refine y_cond (t14_1.isNone) rfl rfl (fun hb39 => ?_) (fun hb39 => ?_)
  · replace h := h.1 (hb39)
    refine y_seq fun K5 hK5 => ?_
    refine y_region ?_
    refine y_k (.bool false : Value) w_2 rfl rfl rfl (by kernel_rfl) ?_
    refine y_nil ?_
    refine y_then (hK5 _ _ ?_)
    refine y_ret ?_
    repeat (first | refine e_then_r ?_ | refine e_block_r ?_)
    exact (hQ0 _ _ _ (res1 (v := (.bool false : Value)) rfl rfl rfl) ⟨_, rfl, h⟩).1
  · replace h := h.2 (hb39)
    refine y_skip ?_
    refine y_then (hK3 _ _ ?_)
    refine y_seq fun K6 hK6 => ?_
    refine y_region ?_
    refine y_k (.pointer t14_1 : Value) w_2 rfl rfl rfl (by kernel_rfl) ?_
    refine y_call rfl rfl rfl (by kernel_rfl) (h.mono ?_)
    rintro _ w_3 ⟨rfl, h⟩
    refine ⟨_, rfl, ?_⟩
    refine y_nil ?_
    refine y_then (hK6 _ _ ?_)
    refine y_seq fun K7 hK7 => ?_
    refine y_region ?_
    refine y_k (.pointer t14_1 : Value) w_3 rfl rfl rfl (by kernel_rfl) ?_
    refine y_call rfl rfl rfl (by kernel_rfl) (h.mono ?_)
    rintro _ w_4 ⟨rfl, h⟩
    refine ⟨_, rfl, ?_⟩
    refine y_nil ?_
    refine y_then (hK7 _ _ ?_)
    refine y_seq fun K8 hK8 => ?_
    refine y_region ?_
    refine y_k (.pointer t14_1 : Value) w_4 rfl rfl rfl (by kernel_rfl) ?_
    refine y_call rfl rfl rfl (by kernel_rfl) (h.mono ?_)
    rintro _ w_5 ⟨rfl, h⟩
    refine ⟨_, rfl, ?_⟩
    refine y_nil ?_
    refine y_then (hK8 _ _ ?_)
    refine y_seq fun K9 hK9 => ?_
    refine y_region ?_
    refine y_k (.pointer t14_1 : Value) w_5 rfl rfl rfl (by kernel_rfl) ?_
    refine y_call rfl rfl rfl (by kernel_rfl) (h.mono ?_)
    rintro _ w_7 ⟨t24_6, rfl, h⟩
    refine ⟨_, rfl, ?_⟩
    obtain ⟨t25_8, hx10, h⟩ := h
    refine y_v (s := convert 22 9 (.slice t24_6.a t24_6.n t24_6.c : Value)) rfl rfl rfl (by kernel_rfl) (hx10) ?_
    refine y_k (.string t25_8 : Value) w_7 rfl rfl rfl (by kernel_rfl) ?_
    refine y_nil ?_
    refine y_then (hK9 _ _ ?_)
    refine y_seq fun K11 hK11 => ?_
    refine y_region ?_
    refine y_k (.pointer t14_1 : Value) w_7 rfl rfl rfl (by kernel_rfl) ?_
    refine y_call rfl rfl rfl (by kernel_rfl) (h.mono ?_)
    rintro _ w_9 ⟨rfl, h⟩
    refine ⟨_, rfl, ?_⟩
    refine y_nil ?_
    refine y_then (hK11 _ _ ?_)
    refine y_seq fun K12 hK12 => ?_
    refine y_region ?_
    refine y_k (.pointer t14_1 : Value) w_9 rfl rfl rfl (by kernel_rfl) ?_
    refine y_call rfl rfl rfl (by kernel_rfl) (h.mono ?_)
    rintro _ w_11 ⟨t29_10, rfl, h⟩
    refine ⟨_, rfl, ?_⟩
    obtain ⟨t30_12, hx13, h⟩ := h
    refine y_v (s := convert 22 9 (.slice t29_10.a t29_10.n t29_10.c : Value)) rfl rfl rfl (by kernel_rfl) (hx13) ?_
    refine y_k (.string t30_12 : Value) w_11 rfl rfl rfl (by kernel_rfl) ?_
    refine y_nil ?_
    refine y_then (hK12 _ _ ?_)
    refine y_seq fun K14 hK14 => ?_
    refine y_region ?_
    refine y_k (.pointer t14_1 : Value) w_11 rfl rfl rfl (by kernel_rfl) ?_
    refine y_call rfl rfl rfl (by kernel_rfl) (h.mono ?_)
    rintro _ w_14 ⟨t32_13, rfl, h⟩
    refine ⟨_, rfl, ?_⟩
    refine y_k (.int .i64 t32_13 : Value) w_14 rfl rfl rfl (by kernel_rfl) ?_
    refine y_nil ?_
    refine y_then (hK14 _ _ ?_)
    refine y_seq fun K15 hK15 => ?_
    refine y_region ?_
    refine y_k (.pointer t14_1 : Value) w_14 rfl rfl rfl (by kernel_rfl) ?_
    refine y_call rfl rfl rfl (by kernel_rfl) (h.mono ?_)
    rintro _ w_15 ⟨rfl, h⟩
    refine ⟨_, rfl, ?_⟩
    refine y_nil ?_
    refine y_then (hK15 _ _ ?_)
    refine y_seq fun K16 hK16 => ?_
    refine y_region ?_
    refine y_k (.pointer t14_1 : Value) w_15 rfl rfl rfl (by kernel_rfl) ?_
    refine y_call rfl rfl rfl (by kernel_rfl) (h.mono ?_)
    rintro _ w_16 ⟨rfl, h⟩
    refine ⟨_, rfl, ?_⟩
    refine y_nil ?_
    refine y_then (hK16 _ _ ?_)
    refine y_seq fun K17 hK17 => ?_
    refine y_region ?_
    refine y_k (.pointer t14_1 : Value) w_16 rfl rfl rfl (by kernel_rfl) ?_
    refine y_call rfl rfl rfl (by kernel_rfl) (h.mono ?_)
    rintro _ w_18 ⟨t38_17, rfl, h⟩
    refine ⟨_, rfl, ?_⟩
    obtain ⟨t39_19, hx18, h⟩ := h
    refine y_v (s := convert 22 9 (.slice t38_17.a t38_17.n t38_17.c : Value)) rfl rfl rfl (by kernel_rfl) (hx18) ?_
    refine y_k (.string t39_19 : Value) w_18 rfl rfl rfl (by kernel_rfl) ?_
    refine y_nil ?_
    refine y_then (hK17 _ _ ?_)
    refine y_seq fun K19 hK19 => ?_
    refine y_region ?_
    refine y_k (.slice (some ⟨w_18.heap.size, 0, none⟩) 2 2 : Value) (w_18.alloc (.cells #[.int .u8 184, .int .u8 16] 5)) rfl rfl rfl (by kernel_rfl) ?_
    replace h := h _ rfl
    generalize w_18.alloc (.cells #[.int .u8 184, .int .u8 16] 5) = w_20 at h ⊢
    refine y_call rfl rfl rfl (by kernel_rfl) (h.mono ?_)
    rintro _ w_22 ⟨t41_21, rfl, h⟩
    refine ⟨_, rfl, ?_⟩
    refine y_k (.pointer t41_21 : Value) w_22 rfl rfl rfl (by kernel_rfl) ?_
    refine y_nil ?_
    refine y_then (hK19 _ _ ?_)
    refine y_seq fun K20 hK20 => ?_
    refine y_seq fun K21 hK21 => ?_
    refine y_region ?_
    refine y_k (.pointer t41_21 : Value) w_22 rfl rfl rfl (by kernel_rfl) ?_
    refine y_v (v := (.bool t41_21.isNone : Value)) (s := do eqGuard .eql 72 (Operand.tmp 42) (Operand.const (Value.pointer none)) (.pointer t41_21 : Value) (.pointer none : Value); binOp .eql 72 (.pointer t41_21 : Value) (.pointer none : Value)) rfl rfl rfl (by kernel_rfl) (run_eql_ptrnil (by kernel_rfl)) ?_
    refine y_nil ?_
    refine y_then (hK21 _ _ ?_)
    refine y_cond (t41_21.isNone) rfl rfl (fun hb38 => ?_) (fun hb38 => ?_)
    · replace h := h.1 (hb38)
      refine y_seq fun K22 hK22 => ?_
      refine y_region ?_
      refine y_k (.bool false : Value) w_22 rfl rfl rfl (by kernel_rfl) ?_
      refine y_nil ?_
      refine y_then (hK22 _ _ ?_)
      refine y_ret ?_
      repeat (first | refine e_then_r ?_ | refine e_block_r ?_)
      exact (hQ0 _ _ _ (res1 (v := (.bool false : Value)) rfl rfl rfl) ⟨_, rfl, h⟩).1
    · replace h := h.2 (hb38)
      refine y_skip ?_
      refine y_then (hK20 _ _ ?_)
      refine y_seq fun K23 hK23 => ?_
      refine y_region ?_
      refine y_k (.pointer t41_21 : Value) w_22 rfl rfl rfl (by kernel_rfl) ?_
      refine y_call rfl rfl rfl (by kernel_rfl) (h.mono ?_)
      rintro _ w_25 ⟨t46_23, t46_24, rfl, h⟩
      refine ⟨_, rfl, ?_⟩
      refine y_k (.tuple #[.int .u64 t46_23, .bool t46_24] : Value) w_25 rfl rfl rfl (by kernel_rfl) ?_
      refine y_k (.int .u64 t46_23 : Value) w_25 rfl rfl rfl (by kernel_rfl) ?_
      refine y_k (.bool t46_24 : Value) w_25 rfl rfl rfl (by kernel_rfl) ?_
      refine y_k (.int .u64 t46_23 : Value) w_25 rfl rfl rfl (by kernel_rfl) ?_
      refine y_k (.bool t46_24 : Value) w_25 rfl rfl rfl (by kernel_rfl) ?_
      refine y_nil ?_
      refine y_then (hK23 _ _ ?_)
      refine y_seq fun K24 hK24 => ?_
      refine y_region ?_
      refine y_k (.pointer t41_21 : Value) w_25 rfl rfl rfl (by kernel_rfl) ?_
      refine y_call rfl rfl rfl (by kernel_rfl) (h.mono ?_)
      rintro _ w_28 ⟨t50_26, t50_27, rfl, h⟩
      refine ⟨_, rfl, ?_⟩
      refine y_nil ?_
      refine y_then (hK24 _ _ ?_)
      refine y_seq fun K25 hK25 => ?_
      refine y_region ?_
      refine y_k (.pointer t41_21 : Value) w_28 rfl rfl rfl (by kernel_rfl) ?_
      refine y_call rfl rfl rfl (by kernel_rfl) (h.mono ?_)
      rintro _ w_31 ⟨t53_29, t53_30, rfl, h⟩
      refine ⟨_, rfl, ?_⟩
      refine y_k (.tuple #[.int .u64 t53_29, .bool t53_30] : Value) w_31 rfl rfl rfl (by kernel_rfl) ?_
      refine y_k (.int .u64 t53_29 : Value) w_31 rfl rfl rfl (by kernel_rfl) ?_
      refine y_k (.bool t53_30 : Value) w_31 rfl rfl rfl (by kernel_rfl) ?_
      refine y_k (.int .u64 t53_29 : Value) w_31 rfl rfl rfl (by kernel_rfl) ?_
      refine y_k (.bool t53_30 : Value) w_31 rfl rfl rfl (by kernel_rfl) ?_
      refine y_nil ?_
      refine y_then (hK25 _ _ ?_)
      refine y_seq fun K26 hK26 => ?_
      refine y_region ?_
      refine y_k (.pointer t41_21 : Value) w_31 rfl rfl rfl (by kernel_rfl) ?_
      refine y_call rfl rfl rfl (by kernel_rfl) (h.mono ?_)
      rintro _ w_33 ⟨t57_32, rfl, h⟩
      refine ⟨_, rfl, ?_⟩
      refine y_k (.int .i64 t57_32 : Value) w_33 rfl rfl rfl (by kernel_rfl) ?_
      refine y_nil ?_
      refine y_then (hK26 _ _ ?_)
      refine y_seq fun K27 hK27 => ?_
      refine y_region ?_
      refine y_k (.pointer t41_21 : Value) w_33 rfl rfl rfl (by kernel_rfl) ?_
      refine y_call rfl rfl rfl (by kernel_rfl) (h.mono ?_)
      rintro _ w_36 ⟨t60_34, t60_35, rfl, h⟩
      refine ⟨_, rfl, ?_⟩
      refine y_k (.tuple #[.int .u64 t60_34, .bool t60_35] : Value) w_36 rfl rfl rfl (by kernel_rfl) ?_
      refine y_k (.int .u64 t60_34 : Value) w_36 rfl rfl rfl (by kernel_rfl) ?_
      refine y_k (.bool t60_35 : Value) w_36 rfl rfl rfl (by kernel_rfl) ?_
      refine y_k (.int .u64 t60_34 : Value) w_36 rfl rfl rfl (by kernel_rfl) ?_
      refine y_k (.bool t60_35 : Value) w_36 rfl rfl rfl (by kernel_rfl) ?_
      refine y_nil ?_
      refine y_then (hK27 _ _ ?_)
      refine y_seq fun K28 hK28 => ?_
      have hjK28 : ∀ (f : Fr) (t0_37 : Bool) (w_38 : World), f 0 = (.bool t0_37 : Value) → F32_j1 K t0_37 w_38 → WK K28 99 f w_38 := by
        intro f t0_37 w_38 e0 h
        refine y_atf (upd_id rfl e0) ?_
        clear e0
        unfold F32_j1 at h
        refine hK28 _ _ ?_
        refine y_ret ?_
        repeat (first | refine e_then_r ?_ | refine e_block_r ?_)
        exact (hQ0 _ _ _ (res1 (v := (.bool t0_37 : Value)) rfl rfl rfl) ⟨_, rfl, h⟩).1
      refine y_region ?_
      refine y_k (.string t25_8 : Value) w_36 rfl rfl rfl (by kernel_rfl) ?_
      refine y_k (.bool ((t25_8.toList == (((ByteArray.mk #[176])).toList))) : Value) w_36 rfl rfl rfl (by kernel_rfl) ?_
      refine y_k (.bool ((t25_8.toList == (((ByteArray.mk #[176])).toList))) : Value) w_36 rfl rfl rfl (by kernel_rfl) ?_
      refine y_fork ((t25_8.toList == (((ByteArray.mk #[176])).toList))) (fun hb29 => ?_) (fun hb29 => ?_)
      · replace h := h.1 (eq_of_beq hb29)
        refine y_frame (upd_id (i := 65) (v := .bool true) rfl (congrArg Value.bool hb29)) ?_
        refine y_gyes rfl rfl rfl ?_
        refine y_k (.string t30_12 : Value) w_36 rfl rfl rfl (by kernel_rfl) ?_
        refine y_gyes rfl rfl rfl ?_
        refine y_k (.bool ((t30_12.toList == (((ByteArray.mk #[184, 16])).toList))) : Value) w_36 rfl rfl rfl (by kernel_rfl) ?_
        refine y_k (.bool ((t30_12.toList == (((ByteArray.mk #[184, 16])).toList))) : Value) w_36 rfl rfl rfl (by kernel_rfl) ?_
        refine y_k (.bool ((t30_12.toList == (((ByteArray.mk #[184, 16])).toList))) : Value) w_36 rfl rfl rfl (by kernel_rfl) ?_
        refine y_fork ((t30_12.toList == (((ByteArray.mk #[184, 16])).toList))) (fun hb30 => ?_) (fun hb30 => ?_)
        · replace h := h.1 (eq_of_beq hb30)
          refine y_frame (upd_id (i := 69) (v := .bool true) rfl (congrArg Value.bool hb30)) ?_
          refine y_gyes rfl rfl rfl ?_
          refine y_k (.int .i64 t32_13 : Value) w_36 rfl rfl rfl (by kernel_rfl) ?_
          refine y_gyes rfl rfl rfl ?_
          refine y_k (.bool ((t32_13 == 13)) : Value) w_36 rfl rfl rfl (by kernel_rfl) ?_
          refine y_k (.bool ((t32_13 == 13)) : Value) w_36 rfl rfl rfl (by kernel_rfl) ?_
          refine y_k (.bool ((t32_13 == 13)) : Value) w_36 rfl rfl rfl (by kernel_rfl) ?_
          refine y_fork ((t32_13 == 13)) (fun hb31 => ?_) (fun hb31 => ?_)
          · replace h := h.1 (eq_of_beq hb31)
            refine y_frame (upd_id (i := 73) (v := .bool true) rfl (congrArg Value.bool hb31)) ?_
            refine y_gyes rfl rfl rfl ?_
            refine y_k (.string t39_19 : Value) w_36 rfl rfl rfl (by kernel_rfl) ?_
            refine y_gyes rfl rfl rfl ?_
            refine y_k (.bool ((t39_19.toList == (((ByteArray.mk #[191])).toList))) : Value) w_36 rfl rfl rfl (by kernel_rfl) ?_
            refine y_k (.bool ((t39_19.toList == (((ByteArray.mk #[191])).toList))) : Value) w_36 rfl rfl rfl (by kernel_rfl) ?_
            refine y_k (.bool ((t39_19.toList == (((ByteArray.mk #[191])).toList))) : Value) w_36 rfl rfl rfl (by kernel_rfl) ?_
            refine y_fork ((t39_19.toList == (((ByteArray.mk #[191])).toList))) (fun hb32 => ?_) (fun hb32 => ?_)
            · replace h := h.1 (eq_of_beq hb32)
              refine y_frame (upd_id (i := 77) (v := .bool true) rfl (congrArg Value.bool hb32)) ?_
              refine y_gyes rfl rfl rfl ?_
              refine y_k (.int .u64 t46_23 : Value) w_36 rfl rfl rfl (by kernel_rfl) ?_
              refine y_gyes rfl rfl rfl ?_
              refine y_k (.bool ((t46_23 == 5)) : Value) w_36 rfl rfl rfl (by kernel_rfl) ?_
              refine y_k (.bool ((t46_23 == 5)) : Value) w_36 rfl rfl rfl (by kernel_rfl) ?_
              refine y_k (.bool ((t46_23 == 5)) : Value) w_36 rfl rfl rfl (by kernel_rfl) ?_
              refine y_fork ((t46_23 == 5)) (fun hb33 => ?_) (fun hb33 => ?_)
              · replace h := h.1 (eq_of_beq hb33)
                refine y_frame (upd_id (i := 81) (v := .bool true) rfl (congrArg Value.bool hb33)) ?_
                refine y_gyes rfl rfl rfl ?_
                refine y_k (.bool t46_24 : Value) w_36 rfl rfl rfl (by kernel_rfl) ?_
                refine y_k (.bool t46_24 : Value) w_36 rfl rfl rfl (by kernel_rfl) ?_
                refine y_k (.bool t46_24 : Value) w_36 rfl rfl rfl (by kernel_rfl) ?_
                refine y_fork (t46_24) (fun hb34 => ?_) (fun hb34 => ?_)
                · replace h := h.1 (hb34)
                  refine y_frame (upd_id (i := 84) (v := .bool true) rfl (congrArg Value.bool hb34)) ?_
                  refine y_gyes rfl rfl rfl ?_
                  refine y_k (.int .u64 t53_29 : Value) w_36 rfl rfl rfl (by kernel_rfl) ?_
                  refine y_gyes rfl rfl rfl ?_
                  refine y_k (.bool ((t53_29 == 258)) : Value) w_36 rfl rfl rfl (by kernel_rfl) ?_
                  refine y_k (.bool ((t53_29 == 258)) : Value) w_36 rfl rfl rfl (by kernel_rfl) ?_
                  refine y_k (.bool ((t53_29 == 258)) : Value) w_36 rfl rfl rfl (by kernel_rfl) ?_
                  refine y_fork ((t53_29 == 258)) (fun hb35 => ?_) (fun hb35 => ?_)
                  · replace h := h.1 (eq_of_beq hb35)
                    refine y_frame (upd_id (i := 88) (v := .bool true) rfl (congrArg Value.bool hb35)) ?_
                    refine y_gyes rfl rfl rfl ?_
                    refine y_k (.bool t53_30 : Value) w_36 rfl rfl rfl (by kernel_rfl) ?_
                    refine y_k (.bool t53_30 : Value) w_36 rfl rfl rfl (by kernel_rfl) ?_
                    refine y_k (.bool t53_30 : Value) w_36 rfl rfl rfl (by kernel_rfl) ?_
                    refine y_fork (t53_30) (fun hb36 => ?_) (fun hb36 => ?_)
                    · replace h := h.1 (hb36)
                      refine y_frame (upd_id (i := 91) (v := .bool true) rfl (congrArg Value.bool hb36)) ?_
                      refine y_gyes rfl rfl rfl ?_
                      refine y_k (.int .i64 t57_32 : Value) w_36 rfl rfl rfl (by kernel_rfl) ?_
                      refine y_gyes rfl rfl rfl ?_
                      refine y_k (.bool ((t57_32 == 3)) : Value) w_36 rfl rfl rfl (by kernel_rfl) ?_
                      refine y_k (.bool ((t57_32 == 3)) : Value) w_36 rfl rfl rfl (by kernel_rfl) ?_
                      refine y_k (.bool ((t57_32 == 3)) : Value) w_36 rfl rfl rfl (by kernel_rfl) ?_
                      refine y_fork ((t57_32 == 3)) (fun hb37 => ?_) (fun hb37 => ?_)
                      · replace h := h.1 (eq_of_beq hb37)
                        refine y_frame (upd_id (i := 95) (v := .bool true) rfl (congrArg Value.bool hb37)) ?_
                        refine y_gyes rfl rfl rfl ?_
                        refine y_k (.bool t60_35 : Value) w_36 rfl rfl rfl (by kernel_rfl) ?_
                        refine y_gyes rfl rfl rfl ?_
                        refine y_k (.bool (!(t60_35)) : Value) w_36 rfl rfl rfl (by kernel_rfl) ?_
                        refine y_k (.bool (!(t60_35)) : Value) w_36 rfl rfl rfl (by kernel_rfl) ?_
                        refine y_k (.bool (!(t60_35)) : Value) w_36 rfl rfl rfl (by kernel_rfl) ?_
                        refine y_nil ?_
                        exact y_then (hjK28 _ (!(t60_35)) w_36 rfl h)
                      · replace h := h.2 (beq_eq_false_iff_ne.mp hb37)
                        refine y_frame (upd_id (i := 95) (v := .bool false) rfl (congrArg Value.bool hb37)) ?_
                        refine y_gno rfl rfl rfl rfl ?_
                        refine y_gno rfl rfl rfl rfl ?_
                        refine y_k (.bool false : Value) w_36 rfl rfl rfl (by kernel_rfl) ?_
                        refine y_k (.bool false : Value) w_36 rfl rfl rfl (by kernel_rfl) ?_
                        refine y_nil ?_
                        exact y_then (hjK28 _ false w_36 rfl h)
                    · replace h := h.2 (hb36)
                      refine y_frame (upd_id (i := 91) (v := .bool false) rfl (congrArg Value.bool hb36)) ?_
                      refine y_gno rfl rfl rfl rfl ?_
                      refine y_gno rfl rfl rfl rfl ?_
                      refine y_k (.bool false : Value) w_36 rfl rfl rfl (by kernel_rfl) ?_
                      refine y_k (.bool false : Value) w_36 rfl rfl rfl (by kernel_rfl) ?_
                      refine y_gno rfl rfl rfl rfl ?_
                      refine y_gno rfl rfl rfl rfl ?_
                      refine y_k (.bool false : Value) w_36 rfl rfl rfl (by kernel_rfl) ?_
                      refine y_k (.bool false : Value) w_36 rfl rfl rfl (by kernel_rfl) ?_
                      refine y_nil ?_
                      exact y_then (hjK28 _ false w_36 rfl h)
                  · replace h := h.2 (beq_eq_false_iff_ne.mp hb35)
                    refine y_frame (upd_id (i := 88) (v := .bool false) rfl (congrArg Value.bool hb35)) ?_
                    refine y_gno rfl rfl rfl rfl ?_
                    refine y_k (.bool false : Value) w_36 rfl rfl rfl (by kernel_rfl) ?_
                    refine y_k (.bool false : Value) w_36 rfl rfl rfl (by kernel_rfl) ?_
                    refine y_gno rfl rfl rfl rfl ?_
                    refine y_gno rfl rfl rfl rfl ?_
                    refine y_k (.bool false : Value) w_36 rfl rfl rfl (by kernel_rfl) ?_
                    refine y_k (.bool false : Value) w_36 rfl rfl rfl (by kernel_rfl) ?_
                    refine y_gno rfl rfl rfl rfl ?_
                    refine y_gno rfl rfl rfl rfl ?_
                    refine y_k (.bool false : Value) w_36 rfl rfl rfl (by kernel_rfl) ?_
                    refine y_k (.bool false : Value) w_36 rfl rfl rfl (by kernel_rfl) ?_
                    refine y_nil ?_
                    exact y_then (hjK28 _ false w_36 rfl h)
                · replace h := h.2 (hb34)
                  refine y_frame (upd_id (i := 84) (v := .bool false) rfl (congrArg Value.bool hb34)) ?_
                  refine y_gno rfl rfl rfl rfl ?_
                  refine y_gno rfl rfl rfl rfl ?_
                  refine y_k (.bool false : Value) w_36 rfl rfl rfl (by kernel_rfl) ?_
                  refine y_k (.bool false : Value) w_36 rfl rfl rfl (by kernel_rfl) ?_
                  refine y_gno rfl rfl rfl rfl ?_
                  refine y_k (.bool false : Value) w_36 rfl rfl rfl (by kernel_rfl) ?_
                  refine y_k (.bool false : Value) w_36 rfl rfl rfl (by kernel_rfl) ?_
                  refine y_gno rfl rfl rfl rfl ?_
                  refine y_gno rfl rfl rfl rfl ?_
                  refine y_k (.bool false : Value) w_36 rfl rfl rfl (by kernel_rfl) ?_
                  refine y_k (.bool false : Value) w_36 rfl rfl rfl (by kernel_rfl) ?_
                  refine y_gno rfl rfl rfl rfl ?_
                  refine y_gno rfl rfl rfl rfl ?_
                  refine y_k (.bool false : Value) w_36 rfl rfl rfl (by kernel_rfl) ?_
                  refine y_k (.bool false : Value) w_36 rfl rfl rfl (by kernel_rfl) ?_
                  refine y_nil ?_
                  exact y_then (hjK28 _ false w_36 rfl h)
              · replace h := h.2 (beq_eq_false_iff_ne.mp hb33)
                refine y_frame (upd_id (i := 81) (v := .bool false) rfl (congrArg Value.bool hb33)) ?_
                refine y_gno rfl rfl rfl rfl ?_
                refine y_k (.bool false : Value) w_36 rfl rfl rfl (by kernel_rfl) ?_
                refine y_k (.bool false : Value) w_36 rfl rfl rfl (by kernel_rfl) ?_
                refine y_gno rfl rfl rfl rfl ?_
                refine y_gno rfl rfl rfl rfl ?_
                refine y_k (.bool false : Value) w_36 rfl rfl rfl (by kernel_rfl) ?_
                refine y_k (.bool false : Value) w_36 rfl rfl rfl (by kernel_rfl) ?_
                refine y_gno rfl rfl rfl rfl ?_
                refine y_k (.bool false : Value) w_36 rfl rfl rfl (by kernel_rfl) ?_
                refine y_k (.bool false : Value) w_36 rfl rfl rfl (by kernel_rfl) ?_
                refine y_gno rfl rfl rfl rfl ?_
                refine y_gno rfl rfl rfl rfl ?_
                refine y_k (.bool false : Value) w_36 rfl rfl rfl (by kernel_rfl) ?_
                refine y_k (.bool false : Value) w_36 rfl rfl rfl (by kernel_rfl) ?_
                refine y_gno rfl rfl rfl rfl ?_
                refine y_gno rfl rfl rfl rfl ?_
                refine y_k (.bool false : Value) w_36 rfl rfl rfl (by kernel_rfl) ?_
                refine y_k (.bool false : Value) w_36 rfl rfl rfl (by kernel_rfl) ?_
                refine y_nil ?_
                exact y_then (hjK28 _ false w_36 rfl h)
            · replace h := h.2 (beq_eq_false_iff_ne.mp hb32)
              refine y_frame (upd_id (i := 77) (v := .bool false) rfl (congrArg Value.bool hb32)) ?_
              refine y_gno rfl rfl rfl rfl ?_
              refine y_gno rfl rfl rfl rfl ?_
              refine y_k (.bool false : Value) w_36 rfl rfl rfl (by kernel_rfl) ?_
              refine y_k (.bool false : Value) w_36 rfl rfl rfl (by kernel_rfl) ?_
              refine y_gno rfl rfl rfl rfl ?_
              refine y_k (.bool false : Value) w_36 rfl rfl rfl (by kernel_rfl) ?_
              refine y_k (.bool false : Value) w_36 rfl rfl rfl (by kernel_rfl) ?_
              refine y_gno rfl rfl rfl rfl ?_
              refine y_gno rfl rfl rfl rfl ?_
              refine y_k (.bool false : Value) w_36 rfl rfl rfl (by kernel_rfl) ?_
              refine y_k (.bool false : Value) w_36 rfl rfl rfl (by kernel_rfl) ?_
              refine y_gno rfl rfl rfl rfl ?_
              refine y_k (.bool false : Value) w_36 rfl rfl rfl (by kernel_rfl) ?_
              refine y_k (.bool false : Value) w_36 rfl rfl rfl (by kernel_rfl) ?_
              refine y_gno rfl rfl rfl rfl ?_
              refine y_gno rfl rfl rfl rfl ?_
              refine y_k (.bool false : Value) w_36 rfl rfl rfl (by kernel_rfl) ?_
              refine y_k (.bool false : Value) w_36 rfl rfl rfl (by kernel_rfl) ?_
              refine y_gno rfl rfl rfl rfl ?_
              refine y_gno rfl rfl rfl rfl ?_
              refine y_k (.bool false : Value) w_36 rfl rfl rfl (by kernel_rfl) ?_
              refine y_k (.bool false : Value) w_36 rfl rfl rfl (by kernel_rfl) ?_
              refine y_nil ?_
              exact y_then (hjK28 _ false w_36 rfl h)
          · replace h := h.2 (beq_eq_false_iff_ne.mp hb31)
            refine y_frame (upd_id (i := 73) (v := .bool false) rfl (congrArg Value.bool hb31)) ?_
            refine y_gno rfl rfl rfl rfl ?_
            refine y_gno rfl rfl rfl rfl ?_
            refine y_k (.bool false : Value) w_36 rfl rfl rfl (by kernel_rfl) ?_
            refine y_k (.bool false : Value) w_36 rfl rfl rfl (by kernel_rfl) ?_
            refine y_gno rfl rfl rfl rfl ?_
            refine y_gno rfl rfl rfl rfl ?_
            refine y_k (.bool false : Value) w_36 rfl rfl rfl (by kernel_rfl) ?_
            refine y_k (.bool false : Value) w_36 rfl rfl rfl (by kernel_rfl) ?_
            refine y_gno rfl rfl rfl rfl ?_
            refine y_k (.bool false : Value) w_36 rfl rfl rfl (by kernel_rfl) ?_
            refine y_k (.bool false : Value) w_36 rfl rfl rfl (by kernel_rfl) ?_
            refine y_gno rfl rfl rfl rfl ?_
            refine y_gno rfl rfl rfl rfl ?_
            refine y_k (.bool false : Value) w_36 rfl rfl rfl (by kernel_rfl) ?_
            refine y_k (.bool false : Value) w_36 rfl rfl rfl (by kernel_rfl) ?_
            refine y_gno rfl rfl rfl rfl ?_
            refine y_k (.bool false : Value) w_36 rfl rfl rfl (by kernel_rfl) ?_
            refine y_k (.bool false : Value) w_36 rfl rfl rfl (by kernel_rfl) ?_
            refine y_gno rfl rfl rfl rfl ?_
            refine y_gno rfl rfl rfl rfl ?_
            refine y_k (.bool false : Value) w_36 rfl rfl rfl (by kernel_rfl) ?_
            refine y_k (.bool false : Value) w_36 rfl rfl rfl (by kernel_rfl) ?_
            refine y_gno rfl rfl rfl rfl ?_
            refine y_gno rfl rfl rfl rfl ?_
            refine y_k (.bool false : Value) w_36 rfl rfl rfl (by kernel_rfl) ?_
            refine y_k (.bool false : Value) w_36 rfl rfl rfl (by kernel_rfl) ?_
            refine y_nil ?_
            exact y_then (hjK28 _ false w_36 rfl h)
        · replace h := h.2 (beq_eq_false_iff_ne.mp hb30)
          refine y_frame (upd_id (i := 69) (v := .bool false) rfl (congrArg Value.bool hb30)) ?_
          refine y_gno rfl rfl rfl rfl ?_
          refine y_gno rfl rfl rfl rfl ?_
          refine y_k (.bool false : Value) w_36 rfl rfl rfl (by kernel_rfl) ?_
          refine y_k (.bool false : Value) w_36 rfl rfl rfl (by kernel_rfl) ?_
          refine y_gno rfl rfl rfl rfl ?_
          refine y_gno rfl rfl rfl rfl ?_
          refine y_k (.bool false : Value) w_36 rfl rfl rfl (by kernel_rfl) ?_
          refine y_k (.bool false : Value) w_36 rfl rfl rfl (by kernel_rfl) ?_
          refine y_gno rfl rfl rfl rfl ?_
          refine y_gno rfl rfl rfl rfl ?_
          refine y_k (.bool false : Value) w_36 rfl rfl rfl (by kernel_rfl) ?_
          refine y_k (.bool false : Value) w_36 rfl rfl rfl (by kernel_rfl) ?_
          refine y_gno rfl rfl rfl rfl ?_
          refine y_k (.bool false : Value) w_36 rfl rfl rfl (by kernel_rfl) ?_
          refine y_k (.bool false : Value) w_36 rfl rfl rfl (by kernel_rfl) ?_
          refine y_gno rfl rfl rfl rfl ?_
          refine y_gno rfl rfl rfl rfl ?_
          refine y_k (.bool false : Value) w_36 rfl rfl rfl (by kernel_rfl) ?_
          refine y_k (.bool false : Value) w_36 rfl rfl rfl (by kernel_rfl) ?_
          refine y_gno rfl rfl rfl rfl ?_
          refine y_k (.bool false : Value) w_36 rfl rfl rfl (by kernel_rfl) ?_
          refine y_k (.bool false : Value) w_36 rfl rfl rfl (by kernel_rfl) ?_
          refine y_gno rfl rfl rfl rfl ?_
          refine y_gno rfl rfl rfl rfl ?_
          refine y_k (.bool false : Value) w_36 rfl rfl rfl (by kernel_rfl) ?_
          refine y_k (.bool false : Value) w_36 rfl rfl rfl (by kernel_rfl) ?_
          refine y_gno rfl rfl rfl rfl ?_
          refine y_gno rfl rfl rfl rfl ?_
          refine y_k (.bool false : Value) w_36 rfl rfl rfl (by kernel_rfl) ?_
          refine y_k (.bool false : Value) w_36 rfl rfl rfl (by kernel_rfl) ?_
          refine y_nil ?_
          exact y_then (hjK28 _ false w_36 rfl h)
      · replace h := h.2 (beq_eq_false_iff_ne.mp hb29)
        refine y_frame (upd_id (i := 65) (v := .bool false) rfl (congrArg Value.bool hb29)) ?_
        refine y_gno rfl rfl rfl rfl ?_
        refine y_gno rfl rfl rfl rfl ?_
        refine y_k (.bool false : Value) w_36 rfl rfl rfl (by kernel_rfl) ?_
        refine y_k (.bool false : Value) w_36 rfl rfl rfl (by kernel_rfl) ?_
        refine y_gno rfl rfl rfl rfl ?_
        refine y_gno rfl rfl rfl rfl ?_
        refine y_k (.bool false : Value) w_36 rfl rfl rfl (by kernel_rfl) ?_
        refine y_k (.bool false : Value) w_36 rfl rfl rfl (by kernel_rfl) ?_
        refine y_gno rfl rfl rfl rfl ?_
        refine y_gno rfl rfl rfl rfl ?_
        refine y_k (.bool false : Value) w_36 rfl rfl rfl (by kernel_rfl) ?_
        refine y_k (.bool false : Value) w_36 rfl rfl rfl (by kernel_rfl) ?_
        refine y_gno rfl rfl rfl rfl ?_
        refine y_gno rfl rfl rfl rfl ?_
        refine y_k (.bool false : Value) w_36 rfl rfl rfl (by kernel_rfl) ?_
        refine y_k (.bool false : Value) w_36 rfl rfl rfl (by kernel_rfl) ?_
        refine y_gno rfl rfl rfl rfl ?_
        refine y_k (.bool false : Value) w_36 rfl rfl rfl (by kernel_rfl) ?_
        refine y_k (.bool false : Value) w_36 rfl rfl rfl (by kernel_rfl) ?_
        refine y_gno rfl rfl rfl rfl ?_
        refine y_gno rfl rfl rfl rfl ?_
        refine y_k (.bool false : Value) w_36 rfl rfl rfl (by kernel_rfl) ?_
        refine y_k (.bool false : Value) w_36 rfl rfl rfl (by kernel_rfl) ?_
        refine y_gno rfl rfl rfl rfl ?_
        refine y_k (.bool false : Value) w_36 rfl rfl rfl (by kernel_rfl) ?_
        refine y_k (.bool false : Value) w_36 rfl rfl rfl (by kernel_rfl) ?_
        refine y_gno rfl rfl rfl rfl ?_
        refine y_gno rfl rfl rfl rfl ?_
        refine y_k (.bool false : Value) w_36 rfl rfl rfl (by kernel_rfl) ?_
        refine y_k (.bool false : Value) w_36 rfl rfl rfl (by kernel_rfl) ?_
        refine y_gno rfl rfl rfl rfl ?_
        refine y_gno rfl rfl rfl rfl ?_
        refine y_k (.bool false : Value) w_36 rfl rfl rfl (by kernel_rfl) ?_
        refine y_k (.bool false : Value) w_36 rfl rfl rfl (by kernel_rfl) ?_
        refine y_nil ?_
        exact y_then (hjK28 _ false w_36 rfl h)

end Go.Proofs.Ythhcaaellhdkiaa
