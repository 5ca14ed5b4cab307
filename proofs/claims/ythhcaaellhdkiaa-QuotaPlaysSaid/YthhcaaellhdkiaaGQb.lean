/- Printed by gen.py (own program, wip/): for each Go function a predicate transformer and its soundness. -/
import Derived.Test.YthhcaaellhdkiaaProg
import Derived.Test.YthhcaaellhdkiaaST
namespace Go.Proofs.Ythhcaaellhdkiaa
open Go Go.RowKit Go.Proofs.Ythhcaaellhdkiaa.SX
set_option linter.unusedVariables false

/-- turnkey/turnkeyref15.New -/
def F50  (K : Option Addr → World → Prop) (w : World) : Prop :=
  ∀ (w_1 : World), w_1 = w.alloc (.cells #[.slice none 0 0] 121) →
  K (some (⟨w.heap.size, 0, none⟩ : Addr)) w_1
set_option maxHeartbeats 4000000 in
set_option maxRecDepth 20000 in
theorem F50_sound  (K : Option Addr → World → Prop) (w : World) (h : F50  K w) :
    Calls Try.prog 50 #[] w (fun e w1 => ∃ (r0 : Option Addr), e = .returned (.pointer r0 : Value) ∧ K r0 w1) := by
  unfold F50 at h
  refine y_enter (n := 3) (args := []) Try.func50 rfl rfl rfl fun Q0 hQ0 => ?_
  refine y_seq fun K1 hK1 => ?_
  refine y_region ?_
  refine y_k (.pointer none : Value) w rfl rfl rfl (by kernel_rfl) ?_
  refine y_nil ?_
  refine y_then (hK1 _ _ ?_)
  refine y_seq fun K2 hK2 => ?_
  refine y_region ?_
  refine y_k (.agg #[.slice none 0 0] : Value) w rfl rfl rfl (by kernel_rfl) ?_
  refine y_k (.pointer (some (⟨w.heap.size, 0, none⟩ : Addr)) : Value) (w.alloc (.cells #[.slice none 0 0] 121)) rfl rfl rfl (by kernel_rfl) ?_
  replace h := h _ rfl
  generalize w.alloc (.cells #[.slice none 0 0] 121) = w_1 at h ⊢
  refine y_k (.pointer (some (⟨w.heap.size, 0, none⟩ : Addr)) : Value) w_1 rfl rfl rfl (by kernel_rfl) ?_
  refine y_nil ?_
  refine y_then (hK2 _ _ ?_)
  refine y_ret ?_
  repeat (first | refine e_then_r ?_ | refine e_block_r ?_)
  exact (hQ0 _ _ _ (res1 (v := (.pointer (some (⟨w.heap.size, 0, none⟩ : Addr)) : Value)) rfl rfl rfl) ⟨_, rfl, h⟩).1

def F73_l1 (q0_1 : Option Addr) (tenant1_2 : ByteArray) (K : Int → World → Prop) (next5 : (Int) → World → Prop) : (Int) → World → Prop := fun (i5_3) w_4 =>
  ∃ (a_5 : Addr), q0_1 = some a_5 ∧
  ∃ (t10_6 : Sl), w_4.cell? a_5 = some (.slice t10_6.a t10_6.n t10_6.c) ∧
  ((i5_3 < ((t10_6.n : Int)) →
  ∃ (a_7 : Addr), q0_1 = some a_7 ∧
  ∃ (t18_8 : Sl), w_4.cell? a_7 = some (.slice t18_8.a t18_8.n t18_8.c) ∧
  (0 : Int) ≤ i5_3 ∧ i5_3 < (t18_8.n : Int) ∧ ∃ (a_9 : Addr), t18_8.a = some a_9 ∧
  ∃ (t22_10 : ByteArray), w_4.cell? (a_9.add (Int.toNat i5_3 * 6)) = some (.string t22_10) ∧
  ((t22_10.toList = tenant1_2.toList →
  K i5_3 w_4) ∧
  (¬ t22_10.toList = tenant1_2.toList →
  next5 (IntKind.i64.wrap (i5_3 + 1)) w_4))) ∧
  (¬ (i5_3 < ((t10_6.n : Int))) →
  K ((-1)) w_4))
/-- (*turnkey/turnkeyref15.Book).at -/
def F73 (q0_1 : Option Addr) (tenant1_2 : ByteArray) (K : Int → World → Prop) (w : World) : Prop :=
  kLoop (F73_l1 q0_1 tenant1_2 K) (0) w
set_option maxHeartbeats 4000000 in
set_option maxRecDepth 20000 in
theorem F73_sound (q0_1 : Option Addr) (tenant1_2 : ByteArray) (K : Int → World → Prop) (w : World) (h : F73 q0_1 tenant1_2 K w) :
    Calls Try.prog 73 #[.pointer q0_1, .string tenant1_2] w (fun e w1 => ∃ (r0 : Int), e = .returned (.int .i64 r0 : Value) ∧ K r0 w1) := by
  unfold F73 at h
  refine y_enter (n := 26) (args := [.pointer q0_1, .string tenant1_2]) Try.func73 rfl rfl rfl fun Q0 hQ0 => ?_
  refine y_seq fun K1 hK1 => ?_
  refine y_region ?_
  refine y_k (.int .i64 0 : Value) w rfl rfl rfl (by kernel_rfl) ?_
  refine y_nil ?_
  refine y_then (hK1 _ _ ?_)
  refine y_seq fun K2 hK2 => ?_
  refine y_seq fun K3 hK3 => ?_
  refine y_region ?_
  refine y_k (.int .i64 0 : Value) w rfl rfl rfl (by kernel_rfl) ?_
  refine y_nil ?_
  refine y_then (hK3 _ _ ?_)
  refine y_block ?_
  refine y_loop (S := Int) (fun s j => match s with | (i5_3) => upd (upd (upd (j) 0 (.pointer q0_1 : Value)) 1 (.string tenant1_2 : Value)) 5 (.int .i64 i5_3 : Value)) (0) ?_ h ?_
  · dsimp only
    refine upd_id ?_ rfl
    refine upd_id ?_ rfl
    refine upd_id ?_ rfl
    rfl
  rintro KN6 next5 hN6 i5_3 j w_4 h
  unfold F73_l1 at h
  refine y_seq fun K7 hK7 => ?_
  refine y_seq fun K8 hK8 => ?_
  refine y_region ?_
  refine y_k (.int .i64 i5_3 : Value) w_4 rfl rfl rfl (by kernel_rfl) ?_
  refine y_k (.pointer q0_1 : Value) w_4 rfl rfl rfl (by kernel_rfl) ?_
  obtain ⟨a_5, hx9, h⟩ := h
  refine y_k (.pointer (some a_5) : Value) w_4 rfl rfl rfl (run_nilCheck hx9 rfl) ?_
  refine y_k (.pointer (some a_5) : Value) w_4 rfl rfl rfl (by kernel_rfl) ?_
  obtain ⟨t10_6, hx10, h⟩ := h
  refine y_v (s := Instr.loadAt 119 (.pointer (some a_5))) rfl rfl rfl (by kernel_rfl) (rn_load (by kernel_rfl) hx10) ?_
  refine y_k (.int .i64 ((t10_6.n : Int)) : Value) w_4 rfl rfl rfl (by kernel_rfl) ?_
  refine y_k (.bool (decide (i5_3 < ((t10_6.n : Int)))) : Value) w_4 rfl rfl rfl (by kernel_rfl) ?_
  refine y_nil ?_
  refine y_then (hK8 _ _ ?_)
  refine y_cond (decide (i5_3 < ((t10_6.n : Int)))) rfl rfl (fun hb21 => ?_) (fun hb21 => ?_)
  · replace h := h.1 (of_decide_eq_true hb21)
    refine y_skip ?_
    refine y_then (hK7 _ _ ?_)
    refine y_seq fun K11 hK11 => ?_
    refine y_block ?_
    refine y_seq fun K13 hK13 => ?_
    refine y_region ?_
    refine y_k (.pointer q0_1 : Value) w_4 rfl rfl rfl (by kernel_rfl) ?_
    obtain ⟨a_7, hx14, h⟩ := h
    refine y_k (.pointer (some a_7) : Value) w_4 rfl rfl rfl (run_nilCheck hx14 rfl) ?_
    refine y_k (.pointer (some a_7) : Value) w_4 rfl rfl rfl (by kernel_rfl) ?_
    obtain ⟨t18_8, hx15, h⟩ := h
    refine y_v (s := Instr.loadAt 119 (.pointer (some a_7))) rfl rfl rfl (by kernel_rfl) (rn_load (by kernel_rfl) hx15) ?_
    refine y_k (.int .i64 i5_3 : Value) w_4 rfl rfl rfl (by kernel_rfl) ?_
    obtain ⟨hx16a, hx16b, a_9, hx16, h⟩ := h
    refine y_v (v := (.pointer (some (a_9.add (Int.toNat i5_3 * 6))) : Value)) (s := Instr.indexAt 119 (.slice t18_8.a t18_8.n t18_8.c : Value) (.int .i64 i5_3 : Value)) rfl rfl rfl (by kernel_rfl) (run_ixs (el := 127) (by kernel_rfl) (by kernel_rfl) hx16 hx16a hx16b) ?_
    refine y_k (.pointer (some (a_9.add (Int.toNat i5_3 * 6))) : Value) w_4 rfl rfl rfl (by kernel_rfl) ?_
    obtain ⟨t22_10, hx17, h⟩ := h
    refine y_v (s := Instr.loadAt 9 (.pointer (some (a_9.add (Int.toNat i5_3 * 6))))) rfl rfl rfl (by kernel_rfl) (rn_load (by kernel_rfl) hx17) ?_
    refine y_k (.string tenant1_2 : Value) w_4 rfl rfl rfl (by kernel_rfl) ?_
    refine y_k (.bool ((t22_10.toList == tenant1_2.toList)) : Value) w_4 rfl rfl rfl (by kernel_rfl) ?_
    refine y_nil ?_
    refine y_then (hK13 _ _ ?_)
    refine y_cond ((t22_10.toList == tenant1_2.toList)) rfl rfl (fun hb19 => ?_) (fun hb19 => ?_)
    · replace h := h.1 (eq_of_beq hb19)
      refine y_seq fun K18 hK18 => ?_
      refine y_region ?_
      refine y_k (.int .i64 i5_3 : Value) w_4 rfl rfl rfl (by kernel_rfl) ?_
      refine y_k (.int .i64 i5_3 : Value) w_4 rfl rfl rfl (by kernel_rfl) ?_
      refine y_nil ?_
      refine y_then (hK18 _ _ ?_)
      refine y_ret ?_
      repeat (first | refine e_then_r ?_ | refine e_block_r ?_)
      exact (hQ0 _ _ _ (res1 (v := (.int .i64 i5_3 : Value)) rfl rfl rfl) ⟨_, rfl, h⟩).1
    · replace h := h.2 (beq_eq_false_iff_ne.mp hb19)
      refine y_skip ?_
      refine e_block_n ?_
      refine y_then (hK11 _ _ ?_)
      refine y_region ?_
      refine y_k (.int .i64 i5_3 : Value) w_4 rfl rfl rfl (by kernel_rfl) ?_
      refine y_k (.int .i64 (IntKind.i64.wrap (i5_3 + 1)) : Value) w_4 rfl rfl rfl (by kernel_rfl) ?_
      refine y_k (.int .i64 (IntKind.i64.wrap (i5_3 + 1)) : Value) w_4 rfl rfl rfl (by kernel_rfl) ?_
      refine y_nil ?_
      refine y_then (hN6 (IntKind.i64.wrap (i5_3 + 1)) _ _ h ?_)
      dsimp only
      refine upd_id ?_ rfl
      refine upd_id ?_ rfl
      refine upd_id ?_ rfl
      rfl
  · replace h := h.2 (of_decide_eq_false hb21)
    refine y_exit ?_
    repeat (first | refine e_then_x ?_ | refine e_block_y rfl ?_)
    refine e_block_x ?_
    refine y_then (hK2 _ _ ?_)
    refine y_seq fun K20 hK20 => ?_
    refine y_region ?_
    refine y_k (.int .i64 ((-1)) : Value) w_4 rfl rfl rfl (by kernel_rfl) ?_
    refine y_nil ?_
    refine y_then (hK20 _ _ ?_)
    refine y_ret ?_
    repeat (first | refine e_then_r ?_ | refine e_block_r ?_)
    exact (hQ0 _ _ _ (res1 (v := (.int .i64 ((-1)) : Value)) rfl rfl rfl) ⟨_, rfl, h⟩).1

/-- turnkey/turnkeyref15.written -/
def F74 (a0_1 : Int) (a0_2 : Int) (a0_3 : Int) (a0_4 : Int) (a0_5 : Int) (window1_6 : Int) (K : Int → Int → World → Prop) (w : World) : Prop :=
  ∀ (w_7 : World), w_7 = w.alloc (.cells #[.int .i64 a0_1, .int .i64 a0_2, .int .i64 a0_3, .int .i64 a0_4, .int .i64 a0_5] 87) →
  ∃ (t8_8 : Int), w_7.cell? ((⟨w.heap.size, 0, none⟩ : Addr).add 4) = some (.int .i64 t8_8) ∧
  ((window1_6 > t8_8 →
  K 0 window1_6 w_7) ∧
  (¬ (window1_6 > t8_8) →
  ∃ (t12_9 : Int), w_7.cell? ((⟨w.heap.size, 0, none⟩ : Addr).add 3) = some (.int .i64 t12_9) ∧
  ∃ (t14_10 : Int), w_7.cell? ((⟨w.heap.size, 0, none⟩ : Addr).add 4) = some (.int .i64 t14_10) ∧
  ∀ (w_11 : World), (∃ m, w_11 = w_7.drewN m) →
  K t12_9 t14_10 w_11))
set_option maxHeartbeats 4000000 in
set_option maxRecDepth 20000 in
theorem F74_sound (a0_1 : Int) (a0_2 : Int) (a0_3 : Int) (a0_4 : Int) (a0_5 : Int) (window1_6 : Int) (K : Int → Int → World → Prop) (w : World) (h : F74 a0_1 a0_2 a0_3 a0_4 a0_5 window1_6 K w) :
    Calls Try.prog 74 #[.agg #[.int .i64 a0_1, .int .i64 a0_2, .int .i64 a0_3, .int .i64 a0_4, .int .i64 a0_5], .int .i64 window1_6] w (fun e w1 => ∃ (r0 : Int), ∃ (r1 : Int), e = .returned (.tuple #[.int .i64 r0, .int .i64 r1]) ∧ K r0 r1 w1) := by
  unfold F74 at h
  refine y_enter (n := 15) (args := [.agg #[.int .i64 a0_1, .int .i64 a0_2, .int .i64 a0_3, .int .i64 a0_4, .int .i64 a0_5], .int .i64 window1_6]) Try.func74 rfl rfl rfl fun Q0 hQ0 => ?_
  refine y_seq fun K1 hK1 => ?_
  refine y_region ?_
  refine y_k (.pointer (some (⟨w.heap.size, 0, none⟩ : Addr)) : Value) (w.alloc (.cells #[.int .i64 a0_1, .int .i64 a0_2, .int .i64 a0_3, .int .i64 a0_4, .int .i64 a0_5] 87)) rfl rfl rfl (by kernel_rfl) ?_
  replace h := h _ rfl
  generalize w.alloc (.cells #[.int .i64 a0_1, .int .i64 a0_2, .int .i64 a0_3, .int .i64 a0_4, .int .i64 a0_5] 87) = w_7 at h ⊢
  refine y_k (.int .i64 0 : Value) w_7 rfl rfl rfl (by kernel_rfl) ?_
  refine y_k (.int .i64 0 : Value) w_7 rfl rfl rfl (by kernel_rfl) ?_
  refine y_nil ?_
  refine y_then (hK1 _ _ ?_)
  refine y_seq fun K2 hK2 => ?_
  refine y_seq fun K3 hK3 => ?_
  refine y_region ?_
  refine y_k (.int .i64 window1_6 : Value) w_7 rfl rfl rfl (by kernel_rfl) ?_
  refine y_k (.pointer (some ((⟨w.heap.size, 0, none⟩ : Addr).add 4)) : Value) w_7 rfl rfl rfl (by kernel_rfl) ?_
  obtain ⟨t8_8, hx4, h⟩ := h
  refine y_v (s := Instr.loadAt 2 (.pointer (some ((⟨w.heap.size, 0, none⟩ : Addr).add 4)))) rfl rfl rfl (by kernel_rfl) (rn_load (by kernel_rfl) hx4) ?_
  refine y_k (.bool (decide (window1_6 > t8_8)) : Value) w_7 rfl rfl rfl (by kernel_rfl) ?_
  refine y_nil ?_
  refine y_then (hK3 _ _ ?_)
  refine y_cond (decide (window1_6 > t8_8)) rfl rfl (fun hb11 => ?_) (fun hb11 => ?_)
  · replace h := h.1 (of_decide_eq_true hb11)
    refine y_seq fun K5 hK5 => ?_
    refine y_region ?_
    refine y_k (.int .i64 window1_6 : Value) w_7 rfl rfl rfl (by kernel_rfl) ?_
    refine y_k (.int .i64 0 : Value) w_7 rfl rfl rfl (by kernel_rfl) ?_
    refine y_k (.int .i64 window1_6 : Value) w_7 rfl rfl rfl (by kernel_rfl) ?_
    refine y_nil ?_
    refine y_then (hK5 _ _ ?_)
    refine y_ret ?_
    repeat (first | refine e_then_r ?_ | refine e_block_r ?_)
    exact (hQ0 _ _ _ (res2 (v1 := (.int .i64 0 : Value)) (v2 := (.int .i64 window1_6 : Value)) rfl rfl rfl rfl) ⟨_, _, rfl, h⟩).1
  · replace h := h.2 (of_decide_eq_false hb11)
    refine y_skip ?_
    refine y_then (hK2 _ _ ?_)
    refine y_seq fun K6 hK6 => ?_
    refine q_region (by kernel_rfl) (by kernel_rfl) fun Qq7 hQq7 => ?_
    refine q_k (.pointer (some ((⟨w.heap.size, 0, none⟩ : Addr).add 3)) : Value) rfl rfl rfl (fun _ => by kernel_rfl) ?_
    obtain ⟨t12_9, hx8, h⟩ := h
    refine q_v (v := (.int .i64 t12_9 : Value)) (s := Instr.loadAt 3 (.pointer (some ((⟨w.heap.size, 0, none⟩ : Addr).add 3)))) rfl rfl rfl (by kernel_rfl) (fun _ => rn_load (by kernel_rfl) hx8) ?_
    refine q_k (.pointer (some ((⟨w.heap.size, 0, none⟩ : Addr).add 4)) : Value) rfl rfl rfl (fun _ => by kernel_rfl) ?_
    obtain ⟨t14_10, hx9, h⟩ := h
    refine q_v (v := (.int .i64 t14_10 : Value)) (s := Instr.loadAt 2 (.pointer (some ((⟨w.heap.size, 0, none⟩ : Addr).add 4)))) rfl rfl rfl (by kernel_rfl) (fun _ => rn_load (by kernel_rfl) hx9) ?_
    refine q_k (.int .i64 t12_9 : Value) rfl rfl rfl (fun _ => by kernel_rfl) ?_
    refine q_k (.int .i64 t14_10 : Value) rfl rfl rfl (fun _ => by kernel_rfl) ?_
    refine q_nil (hQq7 _ fun m10 => ?_)
    replace h := h _ ⟨m10, rfl⟩
    generalize w_7.drewN m10 = w_11 at h ⊢
    refine y_then (hK6 _ _ ?_)
    refine y_ret ?_
    repeat (first | refine e_then_r ?_ | refine e_block_r ?_)
    exact (hQ0 _ _ _ (res2 (v1 := (.int .i64 t12_9 : Value)) (v2 := (.int .i64 t14_10 : Value)) rfl rfl rfl rfl) ⟨_, _, rfl, h⟩).1

def F75_j1 (K : Bool → World → Prop) (t2_2 : Bool) (w_3 : World) : Prop :=
  K t2_2 w_3
/-- turnkey/turnkeyref15.limit -/
def F75 (n0_1 : Int) (K : Bool → World → Prop) (w : World) : Prop :=
  ((n0_1 ≥ 1 →
  F75_j1 K (decide (n0_1 ≤ 1000000)) w) ∧
  (¬ (n0_1 ≥ 1) →
  F75_j1 K false w))
set_option maxHeartbeats 4000000 in
set_option maxRecDepth 20000 in
theorem F75_sound (n0_1 : Int) (K : Bool → World → Prop) (w : World) (h : F75 n0_1 K w) :
    Calls Try.prog 75 #[.int .i64 n0_1] w (fun e w1 => ∃ (r0 : Bool), e = .returned (.bool r0 : Value) ∧ K r0 w1) := by
  unfold F75 at h
  refine y_enter (n := 9) (args := [.int .i64 n0_1]) Try.func75 rfl rfl rfl fun Q0 hQ0 => ?_
  refine y_seq fun K1 hK1 => ?_
  refine y_region ?_
  refine y_k (.bool false : Value) w rfl rfl rfl (by kernel_rfl) ?_
  refine y_nil ?_
  refine y_then (hK1 _ _ ?_)
  refine y_seq fun K2 hK2 => ?_
  have hjK2 : ∀ (f : Fr) (t2_2 : Bool) (w_3 : World), f 2 = (.bool t2_2 : Value) → F75_j1 K t2_2 w_3 → WK K2 9 f w_3 := by
    intro f t2_2 w_3 e2 h
    refine y_atf (upd_id rfl e2) ?_
    clear e2
    unfold F75_j1 at h
    refine hK2 _ _ ?_
    refine y_ret ?_
    repeat (first | refine e_then_r ?_ | refine e_block_r ?_)
    exact (hQ0 _ _ _ (res1 (v := (.bool t2_2 : Value)) rfl rfl rfl) ⟨_, rfl, h⟩).1
  refine y_region ?_
  refine y_k (.int .i64 n0_1 : Value) w rfl rfl rfl (by kernel_rfl) ?_
  refine y_k (.bool (decide (n0_1 ≥ 1)) : Value) w rfl rfl rfl (by kernel_rfl) ?_
  refine y_k (.bool (decide (n0_1 ≥ 1)) : Value) w rfl rfl rfl (by kernel_rfl) ?_
  refine y_fork (decide (n0_1 ≥ 1)) (fun hb3 => ?_) (fun hb3 => ?_)
  · replace h := h.1 (of_decide_eq_true hb3)
    refine y_frame (upd_id (i := 5) (v := .bool true) rfl (congrArg Value.bool hb3)) ?_
    refine y_gyes rfl rfl rfl ?_
    refine y_k (.int .i64 n0_1 : Value) w rfl rfl rfl (by kernel_rfl) ?_
    refine y_gyes rfl rfl rfl ?_
    refine y_k (.bool (decide (n0_1 ≤ 1000000)) : Value) w rfl rfl rfl (by kernel_rfl) ?_
    refine y_k (.bool (decide (n0_1 ≤ 1000000)) : Value) w rfl rfl rfl (by kernel_rfl) ?_
    refine y_k (.bool (decide (n0_1 ≤ 1000000)) : Value) w rfl rfl rfl (by kernel_rfl) ?_
    refine y_nil ?_
    exact y_then (hjK2 _ (decide (n0_1 ≤ 1000000)) w rfl h)
  · replace h := h.2 (of_decide_eq_false hb3)
    refine y_frame (upd_id (i := 5) (v := .bool false) rfl (congrArg Value.bool hb3)) ?_
    refine y_gno rfl rfl rfl rfl ?_
    refine y_gno rfl rfl rfl rfl ?_
    refine y_k (.bool false : Value) w rfl rfl rfl (by kernel_rfl) ?_
    refine y_k (.bool false : Value) w rfl rfl rfl (by kernel_rfl) ?_
    refine y_nil ?_
    exact y_then (hjK2 _ false w rfl h)

/-- (*turnkey/turnkeyref15.Book).Put -/
def F67 (q0_1 : Option Addr) (tenant1_2 : ByteArray) (a2_3 : Int) (a2_4 : Int) (a2_5 : Int) (a2_6 : Int) (a2_7 : Int) (K : Int → World → Prop) (w : World) : Prop :=
  ∀ (w_8 : World), w_8 = w.alloc (.cells #[.int .i64 a2_3, .int .i64 a2_4, .int .i64 a2_5, .int .i64 a2_6, .int .i64 a2_7] 87) →
  ∃ (t10_9 : Int), w_8.cell? (⟨w.heap.size, 0, none⟩ : Addr) = some (.int .i64 t10_9) ∧
  Calls Try.prog 75 #[.int .i64 t10_9] w_8 fun e w_11 => ∃ (t11_10 : Bool), e = .returned (.bool t11_10 : Value) ∧
  ∃ (t13_12 : Int), w_11.cell? ((⟨w.heap.size, 0, none⟩ : Addr).add 1) = some (.int .i64 t13_12) ∧
  Calls Try.prog 75 #[.int .i64 t13_12] w_11 fun e w_14 => ∃ (t14_13 : Bool), e = .returned (.bool t14_13 : Value) ∧
  ((t11_10 = false →
  K 152 w_14) ∧
  (t11_10 = true →
  ((t14_13 = false →
  K 152 w_14) ∧
  (t14_13 = true →
  ∃ (t24_15 : Int), w_14.cell? ((⟨w.heap.size, 0, none⟩ : Addr).add 2) = some (.int .i64 t24_15) ∧
  ((t24_15 < 0 →
  K 1 w_14) ∧
  (¬ (t24_15 < 0) →
  ∃ (t28_16 : Int), w_14.cell? ((⟨w.heap.size, 0, none⟩ : Addr).add 2) = some (.int .i64 t28_16) ∧
  ∃ (t30_17 : Int), w_14.cell? (⟨w.heap.size, 0, none⟩ : Addr) = some (.int .i64 t30_17) ∧
  ((t28_16 > t30_17 →
  K 1 w_14) ∧
  (¬ (t28_16 > t30_17) →
  ∃ (t35_18 : Int), w_14.cell? ((⟨w.heap.size, 0, none⟩ : Addr).add 3) = some (.int .i64 t35_18) ∧
  ((t35_18 < 0 →
  K 1 w_14) ∧
  (¬ (t35_18 < 0) →
  ∃ (t40_19 : Int), w_14.cell? ((⟨w.heap.size, 0, none⟩ : Addr).add 3) = some (.int .i64 t40_19) ∧
  ∃ (t42_20 : Int), w_14.cell? ((⟨w.heap.size, 0, none⟩ : Addr).add 1) = some (.int .i64 t42_20) ∧
  ((t40_19 > t42_20 →
  K 1 w_14) ∧
  (¬ (t40_19 > t42_20) →
  ∃ (t47_21 : Int), w_14.cell? ((⟨w.heap.size, 0, none⟩ : Addr).add 4) = some (.int .i64 t47_21) ∧
  ((t47_21 < 0 →
  K 1 w_14) ∧
  (¬ (t47_21 < 0) →
  Calls Try.prog 73 #[.pointer q0_1, .string tenant1_2] w_14 fun e w_23 => ∃ (t53_22 : Int), e = .returned (.int .i64 t53_22 : Value) ∧
  ((t53_22 ≥ 0 →
  K 163 w_23) ∧
  (¬ (t53_22 ≥ 0) →
  ∀ (w_24 : World), w_24 = w_23.drew →
  ∃ (a_25 : Addr), q0_1 = some a_25 ∧
  ∃ (t59_26 : Sl), w_24.cell? a_25 = some (.slice t59_26.a t59_26.n t59_26.c) ∧
  ∃ (t61_27 : Int), ∃ (t61_28 : Int), ∃ (t61_29 : Int), ∃ (t61_30 : Int), ∃ (t61_31 : Int), CellsAt w_24 (⟨w.heap.size, 0, none⟩ : Addr) 0 [.int .i64 t61_27, .int .i64 t61_28, .int .i64 t61_29, .int .i64 t61_30, .int .i64 t61_31] ∧
  ∀ (w_32 : World), w_32 = w_24.alloc (.cells #[.string tenant1_2, .int .i64 t61_27, .int .i64 t61_28, .int .i64 t61_29, .int .i64 t61_30, .int .i64 t61_31] 127) → 
  ∃ (t64_33 : Sl), ∃ (w_34 : World), (Builtin.append_ #[119, 119] 119 #[.slice t59_26.a t59_26.n t59_26.c, .slice (some ⟨w_24.heap.size, 0, none⟩) 1 1]).run Try.prog w_32 = .ok (.slice t64_33.a t64_33.n t64_33.c : Value) w_34 ∧ 
  ∃ (a_35 : Addr), q0_1 = some a_35 ∧
  HasCell w_34 a_35 ∧ ∀ (w_36 : World), w_36 = w_34.setCell a_35 (.slice t64_33.a t64_33.n t64_33.c : Value) → 
  K 0 w_36))))))))))))))))
set_option maxHeartbeats 4000000 in
set_option maxRecDepth 20000 in
theorem F67_sound (q0_1 : Option Addr) (tenant1_2 : ByteArray) (a2_3 : Int) (a2_4 : Int) (a2_5 : Int) (a2_6 : Int) (a2_7 : Int) (K : Int → World → Prop) (w : World) (h : F67 q0_1 tenant1_2 a2_3 a2_4 a2_5 a2_6 a2_7 K w) :
    Calls Try.prog 67 #[.pointer q0_1, .string tenant1_2, .agg #[.int .i64 a2_3, .int .i64 a2_4, .int .i64 a2_5, .int .i64 a2_6, .int .i64 a2_7]] w (fun e w1 => ∃ (r0 : Int), e = .returned (.int .i64 r0 : Value) ∧ K r0 w1) := by
  unfold F67 at h
  refine y_enter (n := 67) (args := [.pointer q0_1, .string tenant1_2, .agg #[.int .i64 a2_3, .int .i64 a2_4, .int .i64 a2_5, .int .i64 a2_6, .int .i64 a2_7]]) Try.func67 rfl rfl rfl fun Q0 hQ0 => ?_
  refine y_seq fun K1 hK1 => ?_
  refine y_region ?_
  refine y_k (.pointer (some (⟨w.heap.size, 0, none⟩ : Addr)) : Value) (w.alloc (.cells #[.int .i64 a2_3, .int .i64 a2_4, .int .i64 a2_5, .int .i64 a2_6, .int .i64 a2_7] 87)) rfl rfl rfl (by kernel_rfl) ?_
  replace h := h _ rfl
  generalize w.alloc (.cells #[.int .i64 a2_3, .int .i64 a2_4, .int .i64 a2_5, .int .i64 a2_6, .int .i64 a2_7] 87) = w_8 at h ⊢
  refine y_k (.int .i64 0 : Value) w_8 rfl rfl rfl (by kernel_rfl) ?_
  refine y_nil ?_
  refine y_then (hK1 _ _ ?_)
  refine y_seq fun K2 hK2 => ?_
  refine y_region ?_
  refine y_k (.pointer (some (⟨w.heap.size, 0, none⟩ : Addr)) : Value) w_8 rfl rfl rfl (by kernel_rfl) ?_
  obtain ⟨t10_9, hx3, h⟩ := h
  refine y_v (s := Instr.loadAt 3 (.pointer (some (⟨w.heap.size, 0, none⟩ : Addr)))) rfl rfl rfl (by kernel_rfl) (rn_load (by kernel_rfl) hx3) ?_
  refine y_call rfl rfl rfl (by kernel_rfl) (h.mono ?_)
  rintro _ w_11 ⟨t11_10, rfl, h⟩
  refine ⟨_, rfl, ?_⟩
  refine y_k (.bool t11_10 : Value) w_11 rfl rfl rfl (by kernel_rfl) ?_
  refine y_nil ?_
  refine y_then (hK2 _ _ ?_)
  refine y_seq fun K4 hK4 => ?_
  refine y_region ?_
  refine y_k (.pointer (some ((⟨w.heap.size, 0, none⟩ : Addr).add 1)) : Value) w_11 rfl rfl rfl (by kernel_rfl) ?_
  obtain ⟨t13_12, hx5, h⟩ := h
  refine y_v (s := Instr.loadAt 3 (.pointer (some ((⟨w.heap.size, 0, none⟩ : Addr).add 1)))) rfl rfl rfl (by kernel_rfl) (rn_load (by kernel_rfl) hx5) ?_
  refine y_call rfl rfl rfl (by kernel_rfl) (h.mono ?_)
  rintro _ w_14 ⟨t14_13, rfl, h⟩
  refine ⟨_, rfl, ?_⟩
  refine y_k (.bool t14_13 : Value) w_14 rfl rfl rfl (by kernel_rfl) ?_
  refine y_nil ?_
  refine y_then (hK4 _ _ ?_)
  refine y_seq fun K6 hK6 => ?_
  refine y_block ?_
  refine y_seq fun K8 hK8 => ?_
  refine y_region ?_
  refine y_k (.bool t11_10 : Value) w_14 rfl rfl rfl (by kernel_rfl) ?_
  refine y_k (.bool (!(t11_10)) : Value) w_14 rfl rfl rfl (by kernel_rfl) ?_
  refine y_k (.bool (!(t11_10)) : Value) w_14 rfl rfl rfl (by kernel_rfl) ?_
  refine y_fork (!(t11_10)) (fun hb9 => ?_) (fun hb9 => ?_)
  · replace h := h.1 ((not_true_of hb9))
    refine y_frame (upd_id (i := 18) (v := .bool true) rfl (congrArg Value.bool hb9)) ?_
    refine y_gno rfl rfl rfl rfl ?_
    refine y_gno rfl rfl rfl rfl ?_
    refine y_k (.bool true : Value) w_14 rfl rfl rfl (by kernel_rfl) ?_
    refine y_k (.bool true : Value) w_14 rfl rfl rfl (by kernel_rfl) ?_
    refine y_nil ?_
    refine y_then (hK8 _ _ ?_)
    refine y_cond_t rfl rfl ?_
    refine y_seq fun K10 hK10 => ?_
    refine y_region ?_
    refine y_k (.int .i64 152 : Value) w_14 rfl rfl rfl (by kernel_rfl) ?_
    refine y_nil ?_
    refine y_then (hK10 _ _ ?_)
    refine y_ret ?_
    repeat (first | refine e_then_r ?_ | refine e_block_r ?_)
    exact (hQ0 _ _ _ (res1 (v := (.int .i64 152 : Value)) rfl rfl rfl) ⟨_, rfl, h⟩).1
  · replace h := h.2 ((not_false_of hb9))
    refine y_frame (upd_id (i := 18) (v := .bool false) rfl (congrArg Value.bool hb9)) ?_
    refine y_gyes rfl rfl rfl ?_
    refine y_k (.bool t14_13 : Value) w_14 rfl rfl rfl (by kernel_rfl) ?_
    refine y_gyes rfl rfl rfl ?_
    refine y_k (.bool (!(t14_13)) : Value) w_14 rfl rfl rfl (by kernel_rfl) ?_
    refine y_k (.bool (!(t14_13)) : Value) w_14 rfl rfl rfl (by kernel_rfl) ?_
    refine y_k (.bool (!(t14_13)) : Value) w_14 rfl rfl rfl (by kernel_rfl) ?_
    refine y_nil ?_
    refine y_then (hK8 _ _ ?_)
    refine y_cond (!(t14_13)) rfl rfl (fun hb43 => ?_) (fun hb43 => ?_)
    · replace h := h.1 ((not_true_of hb43))
      refine y_seq fun K11 hK11 => ?_
      refine y_region ?_
      refine y_k (.int .i64 152 : Value) w_14 rfl rfl rfl (by kernel_rfl) ?_
      refine y_nil ?_
      refine y_then (hK11 _ _ ?_)
      refine y_ret ?_
      repeat (first | refine e_then_r ?_ | refine e_block_r ?_)
      exact (hQ0 _ _ _ (res1 (v := (.int .i64 152 : Value)) rfl rfl rfl) ⟨_, rfl, h⟩).1
    · replace h := h.2 ((not_false_of hb43))
      refine y_seq fun K12 hK12 => ?_
      refine y_region ?_
      refine y_k (.pointer (some ((⟨w.heap.size, 0, none⟩ : Addr).add 2)) : Value) w_14 rfl rfl rfl (by kernel_rfl) ?_
      obtain ⟨t24_15, hx13, h⟩ := h
      refine y_v (s := Instr.loadAt 3 (.pointer (some ((⟨w.heap.size, 0, none⟩ : Addr).add 2)))) rfl rfl rfl (by kernel_rfl) (rn_load (by kernel_rfl) hx13) ?_
      refine y_k (.bool (decide (t24_15 < 0)) : Value) w_14 rfl rfl rfl (by kernel_rfl) ?_
      refine y_k (.bool (decide (t24_15 < 0)) : Value) w_14 rfl rfl rfl (by kernel_rfl) ?_
      refine y_fork (decide (t24_15 < 0)) (fun hb14 => ?_) (fun hb14 => ?_)
      · replace h := h.1 (of_decide_eq_true hb14)
        refine y_frame (upd_id (i := 26) (v := .bool true) rfl (congrArg Value.bool hb14)) ?_
        refine y_gno rfl rfl rfl rfl ?_
        refine y_gno rfl rfl rfl rfl ?_
        refine y_gno rfl rfl rfl rfl ?_
        refine y_gno rfl rfl rfl rfl ?_
        refine y_gno rfl rfl rfl rfl ?_
        refine y_k (.bool true : Value) w_14 rfl rfl rfl (by kernel_rfl) ?_
        refine y_k (.bool true : Value) w_14 rfl rfl rfl (by kernel_rfl) ?_
        refine y_gno rfl rfl rfl rfl ?_
        refine y_gno rfl rfl rfl rfl ?_
        refine y_gno rfl rfl rfl rfl ?_
        refine y_k (.bool true : Value) w_14 rfl rfl rfl (by kernel_rfl) ?_
        refine y_k (.bool true : Value) w_14 rfl rfl rfl (by kernel_rfl) ?_
        refine y_gno rfl rfl rfl rfl ?_
        refine y_gno rfl rfl rfl rfl ?_
        refine y_gno rfl rfl rfl rfl ?_
        refine y_gno rfl rfl rfl rfl ?_
        refine y_gno rfl rfl rfl rfl ?_
        refine y_k (.bool true : Value) w_14 rfl rfl rfl (by kernel_rfl) ?_
        refine y_k (.bool true : Value) w_14 rfl rfl rfl (by kernel_rfl) ?_
        refine y_gno rfl rfl rfl rfl ?_
        refine y_gno rfl rfl rfl rfl ?_
        refine y_gno rfl rfl rfl rfl ?_
        refine y_k (.bool true : Value) w_14 rfl rfl rfl (by kernel_rfl) ?_
        refine y_k (.bool true : Value) w_14 rfl rfl rfl (by kernel_rfl) ?_
        refine y_nil ?_
        refine y_then (hK12 _ _ ?_)
        refine y_cond_t rfl rfl ?_
        refine y_seq fun K15 hK15 => ?_
        refine y_region ?_
        refine y_k (.int .i64 1 : Value) w_14 rfl rfl rfl (by kernel_rfl) ?_
        refine y_nil ?_
        refine y_then (hK15 _ _ ?_)
        refine y_ret ?_
        repeat (first | refine e_then_r ?_ | refine e_block_r ?_)
        exact (hQ0 _ _ _ (res1 (v := (.int .i64 1 : Value)) rfl rfl rfl) ⟨_, rfl, h⟩).1
      · replace h := h.2 (of_decide_eq_false hb14)
        refine y_frame (upd_id (i := 26) (v := .bool false) rfl (congrArg Value.bool hb14)) ?_
        refine y_gyes rfl rfl rfl ?_
        refine y_k (.pointer (some ((⟨w.heap.size, 0, none⟩ : Addr).add 2)) : Value) w_14 rfl rfl rfl (by kernel_rfl) ?_
        refine y_gyes rfl rfl rfl ?_
        obtain ⟨t28_16, hx16, h⟩ := h
        refine y_v (s := Instr.loadAt 3 (.pointer (some ((⟨w.heap.size, 0, none⟩ : Addr).add 2)))) rfl rfl rfl (by kernel_rfl) (rn_load (by kernel_rfl) hx16) ?_
        refine y_gyes rfl rfl rfl ?_
        refine y_k (.pointer (some (⟨w.heap.size, 0, none⟩ : Addr)) : Value) w_14 rfl rfl rfl (by kernel_rfl) ?_
        refine y_gyes rfl rfl rfl ?_
        obtain ⟨t30_17, hx17, h⟩ := h
        refine y_v (s := Instr.loadAt 3 (.pointer (some (⟨w.heap.size, 0, none⟩ : Addr)))) rfl rfl rfl (by kernel_rfl) (rn_load (by kernel_rfl) hx17) ?_
        refine y_gyes rfl rfl rfl ?_
        refine y_k (.bool (decide (t28_16 > t30_17)) : Value) w_14 rfl rfl rfl (by kernel_rfl) ?_
        refine y_k (.bool (decide (t28_16 > t30_17)) : Value) w_14 rfl rfl rfl (by kernel_rfl) ?_
        refine y_k (.bool (decide (t28_16 > t30_17)) : Value) w_14 rfl rfl rfl (by kernel_rfl) ?_
        refine y_fork (decide (t28_16 > t30_17)) (fun hb18 => ?_) (fun hb18 => ?_)
        · replace h := h.1 (of_decide_eq_true hb18)
          refine y_frame (upd_id (i := 33) (v := .bool true) rfl (congrArg Value.bool hb18)) ?_
          refine y_gno rfl rfl rfl rfl ?_
          refine y_gno rfl rfl rfl rfl ?_
          refine y_gno rfl rfl rfl rfl ?_
          refine y_k (.bool true : Value) w_14 rfl rfl rfl (by kernel_rfl) ?_
          refine y_k (.bool true : Value) w_14 rfl rfl rfl (by kernel_rfl) ?_
          refine y_gno rfl rfl rfl rfl ?_
          refine y_gno rfl rfl rfl rfl ?_
          refine y_gno rfl rfl rfl rfl ?_
          refine y_gno rfl rfl rfl rfl ?_
          refine y_gno rfl rfl rfl rfl ?_
          refine y_k (.bool true : Value) w_14 rfl rfl rfl (by kernel_rfl) ?_
          refine y_k (.bool true : Value) w_14 rfl rfl rfl (by kernel_rfl) ?_
          refine y_gno rfl rfl rfl rfl ?_
          refine y_gno rfl rfl rfl rfl ?_
          refine y_gno rfl rfl rfl rfl ?_
          refine y_k (.bool true : Value) w_14 rfl rfl rfl (by kernel_rfl) ?_
          refine y_k (.bool true : Value) w_14 rfl rfl rfl (by kernel_rfl) ?_
          refine y_nil ?_
          refine y_then (hK12 _ _ ?_)
          refine y_cond_t rfl rfl ?_
          refine y_seq fun K19 hK19 => ?_
          refine y_region ?_
          refine y_k (.int .i64 1 : Value) w_14 rfl rfl rfl (by kernel_rfl) ?_
          refine y_nil ?_
          refine y_then (hK19 _ _ ?_)
          refine y_ret ?_
          repeat (first | refine e_then_r ?_ | refine e_block_r ?_)
          exact (hQ0 _ _ _ (res1 (v := (.int .i64 1 : Value)) rfl rfl rfl) ⟨_, rfl, h⟩).1
        · replace h := h.2 (of_decide_eq_false hb18)
          refine y_frame (upd_id (i := 33) (v := .bool false) rfl (congrArg Value.bool hb18)) ?_
          refine y_gyes rfl rfl rfl ?_
          refine y_k (.pointer (some ((⟨w.heap.size, 0, none⟩ : Addr).add 3)) : Value) w_14 rfl rfl rfl (by kernel_rfl) ?_
          refine y_gyes rfl rfl rfl ?_
          obtain ⟨t35_18, hx20, h⟩ := h
          refine y_v (s := Instr.loadAt 3 (.pointer (some ((⟨w.heap.size, 0, none⟩ : Addr).add 3)))) rfl rfl rfl (by kernel_rfl) (rn_load (by kernel_rfl) hx20) ?_
          refine y_gyes rfl rfl rfl ?_
          refine y_k (.bool (decide (t35_18 < 0)) : Value) w_14 rfl rfl rfl (by kernel_rfl) ?_
          refine y_k (.bool (decide (t35_18 < 0)) : Value) w_14 rfl rfl rfl (by kernel_rfl) ?_
          refine y_k (.bool (decide (t35_18 < 0)) : Value) w_14 rfl rfl rfl (by kernel_rfl) ?_
          refine y_fork (decide (t35_18 < 0)) (fun hb21 => ?_) (fun hb21 => ?_)
          · replace h := h.1 (of_decide_eq_true hb21)
            refine y_frame (upd_id (i := 38) (v := .bool true) rfl (congrArg Value.bool hb21)) ?_
            refine y_gno rfl rfl rfl rfl ?_
            refine y_gno rfl rfl rfl rfl ?_
            refine y_gno rfl rfl rfl rfl ?_
            refine y_gno rfl rfl rfl rfl ?_
            refine y_gno rfl rfl rfl rfl ?_
            refine y_k (.bool true : Value) w_14 rfl rfl rfl (by kernel_rfl) ?_
            refine y_k (.bool true : Value) w_14 rfl rfl rfl (by kernel_rfl) ?_
            refine y_gno rfl rfl rfl rfl ?_
            refine y_gno rfl rfl rfl rfl ?_
            refine y_gno rfl rfl rfl rfl ?_
            refine y_k (.bool true : Value) w_14 rfl rfl rfl (by kernel_rfl) ?_
            refine y_k (.bool true : Value) w_14 rfl rfl rfl (by kernel_rfl) ?_
            refine y_nil ?_
            refine y_then (hK12 _ _ ?_)
            refine y_cond_t rfl rfl ?_
            refine y_seq fun K22 hK22 => ?_
            refine y_region ?_
            refine y_k (.int .i64 1 : Value) w_14 rfl rfl rfl (by kernel_rfl) ?_
            refine y_nil ?_
            refine y_then (hK22 _ _ ?_)
            refine y_ret ?_
            repeat (first | refine e_then_r ?_ | refine e_block_r ?_)
            exact (hQ0 _ _ _ (res1 (v := (.int .i64 1 : Value)) rfl rfl rfl) ⟨_, rfl, h⟩).1
          · replace h := h.2 (of_decide_eq_false hb21)
            refine y_frame (upd_id (i := 38) (v := .bool false) rfl (congrArg Value.bool hb21)) ?_
            refine y_gyes rfl rfl rfl ?_
            refine y_k (.pointer (some ((⟨w.heap.size, 0, none⟩ : Addr).add 3)) : Value) w_14 rfl rfl rfl (by kernel_rfl) ?_
            refine y_gyes rfl rfl rfl ?_
            obtain ⟨t40_19, hx23, h⟩ := h
            refine y_v (s := Instr.loadAt 3 (.pointer (some ((⟨w.heap.size, 0, none⟩ : Addr).add 3)))) rfl rfl rfl (by kernel_rfl) (rn_load (by kernel_rfl) hx23) ?_
            refine y_gyes rfl rfl rfl ?_
            refine y_k (.pointer (some ((⟨w.heap.size, 0, none⟩ : Addr).add 1)) : Value) w_14 rfl rfl rfl (by kernel_rfl) ?_
            refine y_gyes rfl rfl rfl ?_
            obtain ⟨t42_20, hx24, h⟩ := h
            refine y_v (s := Instr.loadAt 3 (.pointer (some ((⟨w.heap.size, 0, none⟩ : Addr).add 1)))) rfl rfl rfl (by kernel_rfl) (rn_load (by kernel_rfl) hx24) ?_
            refine y_gyes rfl rfl rfl ?_
            refine y_k (.bool (decide (t40_19 > t42_20)) : Value) w_14 rfl rfl rfl (by kernel_rfl) ?_
            refine y_k (.bool (decide (t40_19 > t42_20)) : Value) w_14 rfl rfl rfl (by kernel_rfl) ?_
            refine y_k (.bool (decide (t40_19 > t42_20)) : Value) w_14 rfl rfl rfl (by kernel_rfl) ?_
            refine y_fork (decide (t40_19 > t42_20)) (fun hb25 => ?_) (fun hb25 => ?_)
            · replace h := h.1 (of_decide_eq_true hb25)
              refine y_frame (upd_id (i := 45) (v := .bool true) rfl (congrArg Value.bool hb25)) ?_
              refine y_gno rfl rfl rfl rfl ?_
              refine y_gno rfl rfl rfl rfl ?_
              refine y_gno rfl rfl rfl rfl ?_
              refine y_k (.bool true : Value) w_14 rfl rfl rfl (by kernel_rfl) ?_
              refine y_k (.bool true : Value) w_14 rfl rfl rfl (by kernel_rfl) ?_
              refine y_nil ?_
              refine y_then (hK12 _ _ ?_)
              refine y_cond_t rfl rfl ?_
              refine y_seq fun K26 hK26 => ?_
              refine y_region ?_
              refine y_k (.int .i64 1 : Value) w_14 rfl rfl rfl (by kernel_rfl) ?_
              refine y_nil ?_
              refine y_then (hK26 _ _ ?_)
              refine y_ret ?_
              repeat (first | refine e_then_r ?_ | refine e_block_r ?_)
              exact (hQ0 _ _ _ (res1 (v := (.int .i64 1 : Value)) rfl rfl rfl) ⟨_, rfl, h⟩).1
            · replace h := h.2 (of_decide_eq_false hb25)
              refine y_frame (upd_id (i := 45) (v := .bool false) rfl (congrArg Value.bool hb25)) ?_
              refine y_gyes rfl rfl rfl ?_
              refine y_k (.pointer (some ((⟨w.heap.size, 0, none⟩ : Addr).add 4)) : Value) w_14 rfl rfl rfl (by kernel_rfl) ?_
              refine y_gyes rfl rfl rfl ?_
              obtain ⟨t47_21, hx27, h⟩ := h
              refine y_v (s := Instr.loadAt 2 (.pointer (some ((⟨w.heap.size, 0, none⟩ : Addr).add 4)))) rfl rfl rfl (by kernel_rfl) (rn_load (by kernel_rfl) hx27) ?_
              refine y_gyes rfl rfl rfl ?_
              refine y_k (.bool (decide (t47_21 < 0)) : Value) w_14 rfl rfl rfl (by kernel_rfl) ?_
              refine y_k (.bool (decide (t47_21 < 0)) : Value) w_14 rfl rfl rfl (by kernel_rfl) ?_
              refine y_k (.bool (decide (t47_21 < 0)) : Value) w_14 rfl rfl rfl (by kernel_rfl) ?_
              refine y_nil ?_
              refine y_then (hK12 _ _ ?_)
              refine y_cond (decide (t47_21 < 0)) rfl rfl (fun hb42 => ?_) (fun hb42 => ?_)
              · replace h := h.1 (of_decide_eq_true hb42)
                refine y_seq fun K28 hK28 => ?_
                refine y_region ?_
                refine y_k (.int .i64 1 : Value) w_14 rfl rfl rfl (by kernel_rfl) ?_
                refine y_nil ?_
                refine y_then (hK28 _ _ ?_)
                refine y_ret ?_
                repeat (first | refine e_then_r ?_ | refine e_block_r ?_)
                exact (hQ0 _ _ _ (res1 (v := (.int .i64 1 : Value)) rfl rfl rfl) ⟨_, rfl, h⟩).1
              · replace h := h.2 (of_decide_eq_false hb42)
                refine y_seq fun K29 hK29 => ?_
                refine y_region ?_
                refine y_k (.pointer q0_1 : Value) w_14 rfl rfl rfl (by kernel_rfl) ?_
                refine y_k (.string tenant1_2 : Value) w_14 rfl rfl rfl (by kernel_rfl) ?_
                refine y_call rfl rfl rfl (by kernel_rfl) (h.mono ?_)
                rintro _ w_23 ⟨t53_22, rfl, h⟩
                refine ⟨_, rfl, ?_⟩
                refine y_k (.bool (decide (t53_22 ≥ 0)) : Value) w_23 rfl rfl rfl (by kernel_rfl) ?_
                refine y_k (.bool (decide (t53_22 ≥ 0)) : Value) w_23 rfl rfl rfl (by kernel_rfl) ?_
                refine y_nil ?_
                refine y_then (hK29 _ _ ?_)
                refine y_cond (decide (t53_22 ≥ 0)) rfl rfl (fun hb41 => ?_) (fun hb41 => ?_)
                · replace h := h.1 (of_decide_eq_true hb41)
                  refine y_seq fun K30 hK30 => ?_
                  refine y_region ?_
                  refine y_k (.int .i64 163 : Value) w_23 rfl rfl rfl (by kernel_rfl) ?_
                  refine y_nil ?_
                  refine y_then (hK30 _ _ ?_)
                  refine y_ret ?_
                  repeat (first | refine e_then_r ?_ | refine e_block_r ?_)
                  exact (hQ0 _ _ _ (res1 (v := (.int .i64 163 : Value)) rfl rfl rfl) ⟨_, rfl, h⟩).1
                · replace h := h.2 (of_decide_eq_false hb41)
                  refine y_skip ?_
                  refine e_block_n ?_
                  refine y_then (hK6 _ _ ?_)
                  refine y_seq fun K31 hK31 => ?_
                  obtain ⟨w_24, hwd32⟩ : ∃ wd : World, wd = w_23.drew := ⟨_, rfl⟩
                  replace h := h _ hwd32
                  refine t_region (wd := w_24) [] (by kernel_rfl) hwd32 SF_nil fun Q32 hE32 hp32 hS => ?_
                  clear hwd32
                  refine t_kw hp32 hS 0 (.pointer q0_1 : Value) rfl (wanted_none rfl) rfl rfl (by kernel_rfl) (fun _ _ => by kernel_rfl) fun hS => ?_
                  refine t_kw hp32 hS 1 (.pointer q0_1 : Value) rfl (wanted_none rfl) rfl rfl (by kernel_rfl) (fun _ _ => by kernel_rfl) fun hS => ?_
                  obtain ⟨a_25, hx33, h⟩ := h
                  refine t_kw hp32 hS 2 (.pointer (some a_25) : Value) rfl (wanted_none rfl) rfl rfl (by kernel_rfl) (fun _ _ => run_nilCheck hx33 rfl) fun hS => ?_
                  refine t_kw hp32 hS 3 (.pointer (some a_25) : Value) rfl (wanted_none rfl) rfl rfl (by kernel_rfl) (fun _ _ => by kernel_rfl) fun hS => ?_
                  obtain ⟨t59_26, hx34, h⟩ := h
                  refine t_add ⟨4, [9, 12], fun wx => wx.cell? a_25 = some (.slice t59_26.a t59_26.n t59_26.c)⟩ ?_
                  replace hS := SF_on (x := ⟨4, [9, 12], fun wx => wx.cell? a_25 = some (.slice t59_26.a t59_26.n t59_26.c)⟩) hx34 hS
                  refine t_v (s := Instr.loadAt 119 (.pointer (some a_25))) hp32 hS 4 (.slice t59_26.a t59_26.n t59_26.c : Value) rfl (wanted_none rfl) rfl rfl (by kernel_rfl) (by kernel_rfl) (fun _ hw => rn_load (by kernel_rfl) (Sw.fact (List.Mem.head _) rfl hw)) fun hS => ?_
                  refine t_kw hp32 hS 5 (.string tenant1_2 : Value) rfl (wanted_none rfl) rfl rfl (by kernel_rfl) (fun _ _ => by kernel_rfl) fun hS => ?_
                  obtain ⟨t61_27, t61_28, t61_29, t61_30, t61_31, hx35, h⟩ := h
                  refine t_add ⟨6, [8, 9, 12], fun wx => CellsAt wx (⟨w.heap.size, 0, none⟩ : Addr) 0 [.int .i64 t61_27, .int .i64 t61_28, .int .i64 t61_29, .int .i64 t61_30, .int .i64 t61_31]⟩ ?_
                  replace hS := SF_on (x := ⟨6, [8, 9, 12], fun wx => CellsAt wx (⟨w.heap.size, 0, none⟩ : Addr) 0 [.int .i64 t61_27, .int .i64 t61_28, .int .i64 t61_29, .int .i64 t61_30, .int .i64 t61_31]⟩) hx35 hS
                  refine t_v (s := Instr.loadAt 87 (.pointer (some (⟨w.heap.size, 0, none⟩ : Addr)))) hp32 hS 6 (.agg #[.int .i64 t61_27, .int .i64 t61_28, .int .i64 t61_29, .int .i64 t61_30, .int .i64 t61_31] : Value) rfl (wanted_none rfl) rfl rfl (by kernel_rfl) (by kernel_rfl) (fun _ hw => rn_loadcells (k := 5) ⟨by kernel_rfl, by kernel_rfl⟩ rfl (Sw.fact (List.Mem.head _) rfl hw)) fun hS => ?_
                  refine t_kw hp32 hS 7 (.agg #[.string tenant1_2, .int .i64 t61_27, .int .i64 t61_28, .int .i64 t61_29, .int .i64 t61_30, .int .i64 t61_31] : Value) rfl (wanted_none rfl) rfl rfl (by kernel_rfl) (fun _ _ => by kernel_rfl) fun hS => ?_
                  replace h := h _ rfl
                  have hx36 := cell_alloc (ob := (.cells #[.string tenant1_2, .int .i64 t61_27, .int .i64 t61_28, .int .i64 t61_29, .int .i64 t61_30, .int .i64 t61_31] 127)) hx34
                  refine t_kstep 8 (.slice (some ⟨w_24.heap.size, 0, none⟩) 1 1 : Value) (w_24.alloc (.cells #[.string tenant1_2, .int .i64 t61_27, .int .i64 t61_28, .int .i64 t61_29, .int .i64 t61_30, .int .i64 t61_31] 127)) (by kernel_rfl) rfl (wanted_none rfl) rfl rfl (by kernel_rfl) (SF_off (by kernel_rfl) (by kernel_rfl) (SF_on hx36 SF_nil)) fun hS => ?_
                  generalize w_24.alloc (.cells #[.string tenant1_2, .int .i64 t61_27, .int .i64 t61_28, .int .i64 t61_29, .int .i64 t61_30, .int .i64 t61_31] 127) = w_32 at hx36 hS h ⊢
                  obtain ⟨t64_33, w_34, hx37, h⟩ := h
                  refine t_w 9 (s := Builtin.append_ #[119, 119] 119 #[.slice t59_26.a t59_26.n t59_26.c, .slice (some ⟨w_24.heap.size, 0, none⟩) 1 1]) (by kernel_rfl) rfl (wanted_none rfl) rfl rfl (by kernel_rfl) hx37 (SF_off (by kernel_rfl) (by kernel_rfl) (SF_off (by kernel_rfl) (by kernel_rfl) SF_nil)) fun hS => ?_
                  obtain ⟨a_35, hx38, h⟩ := h
                  refine t_kw hp32 hS 10 (.pointer (some a_35) : Value) rfl (wanted_none rfl) rfl rfl (by kernel_rfl) (fun _ _ => run_nilCheck hx38 rfl) fun hS => ?_
                  refine t_kw hp32 hS 11 (.pointer (some a_35) : Value) rfl (wanted_none rfl) rfl rfl (by kernel_rfl) (fun _ _ => by kernel_rfl) fun hS => ?_
                  obtain ⟨hx39, h⟩ := h
                  replace h := h _ rfl
                  refine t_u 12 (s := Instr.storeAt 119 (.pointer (some a_35)) (.slice t64_33.a t64_33.n t64_33.c : Value)) (by kernel_rfl) rfl (wanted_none rfl) rfl (by kernel_rfl) (rn_store1 (by kernel_rfl) rfl hx39) (SF_off (by kernel_rfl) (by kernel_rfl) (SF_off (by kernel_rfl) (by kernel_rfl) SF_nil)) fun hS => ?_
                  generalize w_34.setCell a_35 (.slice t64_33.a t64_33.n t64_33.c : Value) = w_36 at hS h ⊢
                  refine t_done (by kernel_rfl) (hE32 _ _ ?_)
                  refine y_then (hK31 _ _ ?_)
                  refine y_seq fun K40 hK40 => ?_
                  refine y_region ?_
                  refine y_k (.int .i64 0 : Value) w_36 rfl rfl rfl (by kernel_rfl) ?_
                  refine y_nil ?_
                  refine y_then (hK40 _ _ ?_)
                  refine y_ret ?_
                  repeat (first | refine e_then_r ?_ | refine e_block_r ?_)
                  exact (hQ0 _ _ _ (res1 (v := (.int .i64 0 : Value)) rfl rfl rfl) ⟨_, rfl, h⟩).1

/-- (*turnkey/turnkeyref15.Book).Set -/
def F64 (q0_1 : Option Addr) (tenant1_2 : ByteArray) (series2_3 : Int) (samples3_4 : Int) (K : Int → World → Prop) (w : World) : Prop :=
  Calls Try.prog 67 #[.pointer q0_1, .string tenant1_2, .agg #[.int .i64 series2_3, .int .i64 samples3_4, .int .i64 0, .int .i64 0, .int .i64 0]] w fun e w_6 => ∃ (t14_5 : Int), e = .returned (.int .i64 t14_5 : Value) ∧
  K t14_5 w_6
set_option maxHeartbeats 4000000 in
set_option maxRecDepth 20000 in
theorem F64_sound (q0_1 : Option Addr) (tenant1_2 : ByteArray) (series2_3 : Int) (samples3_4 : Int) (K : Int → World → Prop) (w : World) (h : F64 q0_1 tenant1_2 series2_3 samples3_4 K w) :
    Calls Try.prog 64 #[.pointer q0_1, .string tenant1_2, .int .i64 series2_3, .int .i64 samples3_4] w (fun e w1 => ∃ (r0 : Int), e = .returned (.int .i64 r0 : Value) ∧ K r0 w1) := by
  unfold F64 at h
  refine y_enter (n := 15) (args := [.pointer q0_1, .string tenant1_2, .int .i64 series2_3, .int .i64 samples3_4]) Try.func64 rfl rfl rfl fun Q0 hQ0 => ?_
  refine y_seq fun K1 hK1 => ?_
  refine y_region ?_
  refine y_k (.int .i64 0 : Value) w rfl rfl rfl (by kernel_rfl) ?_
  refine y_nil ?_
  refine y_then (hK1 _ _ ?_)
  refine y_seq fun K2 hK2 => ?_
  refine y_region ?_
  refine y_k (.pointer q0_1 : Value) w rfl rfl rfl (by kernel_rfl) ?_
  refine y_k (.string tenant1_2 : Value) w rfl rfl rfl (by kernel_rfl) ?_
  refine y_k (.int .i64 series2_3 : Value) w rfl rfl rfl (by kernel_rfl) ?_
  refine y_k (.int .i64 samples3_4 : Value) w rfl rfl rfl (by kernel_rfl) ?_
  refine y_k (.agg #[.int .i64 series2_3, .int .i64 samples3_4, .int .i64 0, .int .i64 0, .int .i64 0] : Value) w rfl rfl rfl (by kernel_rfl) ?_
  refine y_call rfl rfl rfl (by kernel_rfl) (h.mono ?_)
  rintro _ w_6 ⟨t14_5, rfl, h⟩
  refine ⟨_, rfl, ?_⟩
  refine y_k (.int .i64 t14_5 : Value) w_6 rfl rfl rfl (by kernel_rfl) ?_
  refine y_nil ?_
  refine y_then (hK2 _ _ ?_)
  refine y_ret ?_
  repeat (first | refine e_then_r ?_ | refine e_block_r ?_)
  exact (hQ0 _ _ _ (res1 (v := (.int .i64 t14_5 : Value)) rfl rfl rfl) ⟨_, rfl, h⟩).1

/-- (*turnkey/turnkeyref15.Book).Drop -/
def F65 (q0_1 : Option Addr) (tenant1_2 : ByteArray) (K : Bool → World → Prop) (w : World) : Prop :=
  Calls Try.prog 73 #[.pointer q0_1, .string tenant1_2] w fun e w_4 => ∃ (t9_3 : Int), e = .returned (.int .i64 t9_3 : Value) ∧
  ((t9_3 < 0 →
  K false w_4) ∧
  (¬ (t9_3 < 0) →
  ∃ (a_5 : Addr), q0_1 = some a_5 ∧
  ∃ (t16_6 : Sl), w_4.cell? a_5 = some (.slice t16_6.a t16_6.n t16_6.c) ∧
  ∃ (t18_7 : Sl), (Instr.sliceAt 119 (.slice t16_6.a t16_6.n t16_6.c : Value) none (some (.int .i64 t9_3 : Value)) none).run Try.prog w_4 = .ok (.slice t18_7.a t18_7.n t18_7.c : Value) w_4 ∧
  ∃ (t19_8 : Sl), ∃ (w_9 : World), (Builtin.append_ #[119, 119] 119 #[.slice none 0 0, .slice t18_7.a t18_7.n t18_7.c]).run Try.prog w_4 = .ok (.slice t19_8.a t19_8.n t19_8.c : Value) w_9 ∧
  ∃ (a_10 : Addr), q0_1 = some a_10 ∧
  ∃ (t25_11 : Sl), w_9.cell? a_10 = some (.slice t25_11.a t25_11.n t25_11.c) ∧
  ∃ (t28_12 : Sl), (Instr.sliceAt 119 (.slice t25_11.a t25_11.n t25_11.c : Value) (some (.int .i64 (IntKind.i64.wrap (t9_3 + 1)) : Value)) none none).run Try.prog w_9 = .ok (.slice t28_12.a t28_12.n t28_12.c : Value) w_9 ∧
  ∃ (t29_13 : Sl), ∃ (w_14 : World), (Builtin.append_ #[119, 119] 119 #[.slice t19_8.a t19_8.n t19_8.c, .slice t28_12.a t28_12.n t28_12.c]).run Try.prog w_9 = .ok (.slice t29_13.a t29_13.n t29_13.c : Value) w_14 ∧
  ∃ (a_15 : Addr), q0_1 = some a_15 ∧
  HasCell w_14 a_15 ∧ ∀ (w_16 : World), w_16 = w_14.setCell a_15 (.slice t29_13.a t29_13.n t29_13.c : Value) →
  K true w_16))
set_option maxHeartbeats 4000000 in
set_option maxRecDepth 20000 in
theorem F65_sound (q0_1 : Option Addr) (tenant1_2 : ByteArray) (K : Bool → World → Prop) (w : World) (h : F65 q0_1 tenant1_2 K w) :
    Calls Try.prog 65 #[.pointer q0_1, .string tenant1_2] w (fun e w1 => ∃ (r0 : Bool), e = .returned (.bool r0 : Value) ∧ K r0 w1) := by
  unfold F65 at h
  refine y_enter (n := 32) (args := [.pointer q0_1, .string tenant1_2]) Try.func65 rfl rfl rfl fun Q0 hQ0 => ?_
  refine y_seq fun K1 hK1 => ?_
  refine y_region ?_
  refine y_k (.bool false : Value) w rfl rfl rfl (by kernel_rfl) ?_
  refine y_nil ?_
  refine y_then (hK1 _ _ ?_)
  refine y_seq fun K2 hK2 => ?_
  refine y_region ?_
  refine y_k (.pointer q0_1 : Value) w rfl rfl rfl (by kernel_rfl) ?_
  refine y_k (.string tenant1_2 : Value) w rfl rfl rfl (by kernel_rfl) ?_
  refine y_call rfl rfl rfl (by kernel_rfl) (h.mono ?_)
  rintro _ w_4 ⟨t9_3, rfl, h⟩
  refine ⟨_, rfl, ?_⟩
  refine y_k (.int .i64 t9_3 : Value) w_4 rfl rfl rfl (by kernel_rfl) ?_
  refine y_nil ?_
  refine y_then (hK2 _ _ ?_)
  refine y_seq fun K3 hK3 => ?_
  refine y_seq fun K4 hK4 => ?_
  refine y_region ?_
  refine y_k (.int .i64 t9_3 : Value) w_4 rfl rfl rfl (by kernel_rfl) ?_
  refine y_k (.bool (decide (t9_3 < 0)) : Value) w_4 rfl rfl rfl (by kernel_rfl) ?_
  refine y_nil ?_
  refine y_then (hK4 _ _ ?_)
  refine y_cond (decide (t9_3 < 0)) rfl rfl (fun hb20 => ?_) (fun hb20 => ?_)
  · replace h := h.1 (of_decide_eq_true hb20)
    refine y_seq fun K5 hK5 => ?_
    refine y_region ?_
    refine y_k (.bool false : Value) w_4 rfl rfl rfl (by kernel_rfl) ?_
    refine y_nil ?_
    refine y_then (hK5 _ _ ?_)
    refine y_ret ?_
    repeat (first | refine e_then_r ?_ | refine e_block_r ?_)
    exact (hQ0 _ _ _ (res1 (v := (.bool false : Value)) rfl rfl rfl) ⟨_, rfl, h⟩).1
  · replace h := h.2 (of_decide_eq_false hb20)
    refine y_skip ?_
    refine y_then (hK3 _ _ ?_)
    refine y_seq fun K6 hK6 => ?_
    refine y_region ?_
    refine y_k (.slice none 0 0 : Value) w_4 rfl rfl rfl (by kernel_rfl) ?_
    refine y_nil ?_
    refine y_then (hK6 _ _ ?_)
    refine y_seq fun K7 hK7 => ?_
    refine y_region ?_
    refine y_k (.slice none 0 0 : Value) w_4 rfl rfl rfl (by kernel_rfl) ?_
    refine y_k (.pointer q0_1 : Value) w_4 rfl rfl rfl (by kernel_rfl) ?_
    obtain ⟨a_5, hx8, h⟩ := h
    refine y_k (.pointer (some a_5) : Value) w_4 rfl rfl rfl (run_nilCheck hx8 rfl) ?_
    refine y_k (.pointer (some a_5) : Value) w_4 rfl rfl rfl (by kernel_rfl) ?_
    obtain ⟨t16_6, hx9, h⟩ := h
    refine y_v (s := Instr.loadAt 119 (.pointer (some a_5))) rfl rfl rfl (by kernel_rfl) (rn_load (by kernel_rfl) hx9) ?_
    refine y_k (.int .i64 t9_3 : Value) w_4 rfl rfl rfl (by kernel_rfl) ?_
    obtain ⟨t18_7, hx10, h⟩ := h
    refine y_v (s := Instr.sliceAt 119 (.slice t16_6.a t16_6.n t16_6.c : Value) none (some (.int .i64 t9_3 : Value)) none) rfl rfl rfl (by kernel_rfl) (hx10) ?_
    obtain ⟨t19_8, w_9, hx11, h⟩ := h
    refine y_v (s := Builtin.append_ #[119, 119] 119 #[.slice none 0 0, .slice t18_7.a t18_7.n t18_7.c]) rfl rfl rfl (by kernel_rfl) hx11 ?_
    refine y_k (.slice t19_8.a t19_8.n t19_8.c : Value) w_9 rfl rfl rfl (by kernel_rfl) ?_
    refine y_nil ?_
    refine y_then (hK7 _ _ ?_)
    refine y_seq fun K12 hK12 => ?_
    refine y_region ?_
    refine y_k (.pointer q0_1 : Value) w_9 rfl rfl rfl (by kernel_rfl) ?_
    refine y_k (.slice t19_8.a t19_8.n t19_8.c : Value) w_9 rfl rfl rfl (by kernel_rfl) ?_
    refine y_k (.pointer q0_1 : Value) w_9 rfl rfl rfl (by kernel_rfl) ?_
    obtain ⟨a_10, hx13, h⟩ := h
    refine y_k (.pointer (some a_10) : Value) w_9 rfl rfl rfl (run_nilCheck hx13 rfl) ?_
    refine y_k (.pointer (some a_10) : Value) w_9 rfl rfl rfl (by kernel_rfl) ?_
    obtain ⟨t25_11, hx14, h⟩ := h
    refine y_v (s := Instr.loadAt 119 (.pointer (some a_10))) rfl rfl rfl (by kernel_rfl) (rn_load (by kernel_rfl) hx14) ?_
    refine y_k (.int .i64 t9_3 : Value) w_9 rfl rfl rfl (by kernel_rfl) ?_
    refine y_k (.int .i64 (IntKind.i64.wrap (t9_3 + 1)) : Value) w_9 rfl rfl rfl (by kernel_rfl) ?_
    obtain ⟨t28_12, hx15, h⟩ := h
    refine y_v (s := Instr.sliceAt 119 (.slice t25_11.a t25_11.n t25_11.c : Value) (some (.int .i64 (IntKind.i64.wrap (t9_3 + 1)) : Value)) none none) rfl rfl rfl (by kernel_rfl) (hx15) ?_
    obtain ⟨t29_13, w_14, hx16, h⟩ := h
    refine y_v (s := Builtin.append_ #[119, 119] 119 #[.slice t19_8.a t19_8.n t19_8.c, .slice t28_12.a t28_12.n t28_12.c]) rfl rfl rfl (by kernel_rfl) hx16 ?_
    obtain ⟨a_15, hx17, h⟩ := h
    refine y_k (.pointer (some a_15) : Value) w_14 rfl rfl rfl (run_nilCheck hx17 rfl) ?_
    refine y_k (.pointer (some a_15) : Value) w_14 rfl rfl rfl (by kernel_rfl) ?_
    obtain ⟨hx18, h⟩ := h
    replace h := h _ rfl
    refine y_u (s := Instr.storeAt 119 (.pointer (some a_15)) (.slice t29_13.a t29_13.n t29_13.c : Value)) rfl rfl (by kernel_rfl) (rn_store1 (by kernel_rfl) rfl hx18) ?_
    generalize w_14.setCell a_15 (.slice t29_13.a t29_13.n t29_13.c : Value) = w_16 at h ⊢
    refine y_nil ?_
    refine y_then (hK12 _ _ ?_)
    refine y_seq fun K19 hK19 => ?_
    refine y_region ?_
    refine y_k (.bool true : Value) w_16 rfl rfl rfl (by kernel_rfl) ?_
    refine y_nil ?_
    refine y_then (hK19 _ _ ?_)
    refine y_ret ?_
    repeat (first | refine e_then_r ?_ | refine e_block_r ?_)
    exact (hQ0 _ _ _ (res1 (v := (.bool true : Value)) rfl rfl rfl) ⟨_, rfl, h⟩).1

/-- (*turnkey/turnkeyref15.Book).Take -/
def F66 (q0_1 : Option Addr) (tenant1_2 : ByteArray) (window2_3 : Int) (series3_4 : Int) (samples4_5 : Int) (K : Int → World → Prop) (w : World) : Prop :=
  Calls Try.prog 73 #[.pointer q0_1, .string tenant1_2] w fun e w_7 => ∃ (t17_6 : Int), e = .returned (.int .i64 t17_6 : Value) ∧
  ((t17_6 < 0 →
  K 171 w_7) ∧
  (¬ (t17_6 < 0) →
  ((series3_4 < 0 →
  K 1 w_7) ∧
  (¬ (series3_4 < 0) →
  ((samples4_5 < 0 →
  K 1 w_7) ∧
  (¬ (samples4_5 < 0) →
  ∃ (a_8 : Addr), q0_1 = some a_8 ∧
  ∃ (t31_9 : Sl), w_7.cell? a_8 = some (.slice t31_9.a t31_9.n t31_9.c) ∧
  (0 : Int) ≤ t17_6 ∧ t17_6 < (t31_9.n : Int) ∧ ∃ (a_10 : Addr), t31_9.a = some a_10 ∧
  ∃ (t35_11 : Int), ∃ (t35_12 : Int), ∃ (t35_13 : Int), ∃ (t35_14 : Int), ∃ (t35_15 : Int), CellsAt w_7 ((a_10.add (Int.toNat t17_6 * 6)).add 1) 0 [.int .i64 t35_11, .int .i64 t35_12, .int .i64 t35_13, .int .i64 t35_14, .int .i64 t35_15] ∧
  ∀ (w_16 : World), w_16 = w_7.alloc (.cells #[.int .i64 0, .int .i64 0, .int .i64 0, .int .i64 0, .int .i64 0] 87) →
  HasCells w_16 (⟨w_7.heap.size, 0, none⟩ : Addr) 0 5 ∧ ∀ (w_17 : World), w_17 = setCells w_16 (⟨w_7.heap.size, 0, none⟩ : Addr) 0 [.int .i64 t35_11, .int .i64 t35_12, .int .i64 t35_13, .int .i64 t35_14, .int .i64 t35_15] →
  ∃ (t37_18 : Int), ∃ (t37_19 : Int), ∃ (t37_20 : Int), ∃ (t37_21 : Int), ∃ (t37_22 : Int), CellsAt w_17 (⟨w_7.heap.size, 0, none⟩ : Addr) 0 [.int .i64 t37_18, .int .i64 t37_19, .int .i64 t37_20, .int .i64 t37_21, .int .i64 t37_22] ∧
  Calls Try.prog 74 #[.agg #[.int .i64 t37_18, .int .i64 t37_19, .int .i64 t37_20, .int .i64 t37_21, .int .i64 t37_22], .int .i64 window2_3] w_17 fun e w_25 => ∃ (t39_23 : Int), ∃ (t39_24 : Int), e = .returned (.tuple #[.int .i64 t39_23, .int .i64 t39_24] : Value) ∧
  ∃ (t45_26 : Int), w_25.cell? (⟨w_7.heap.size, 0, none⟩ : Addr) = some (.int .i64 t45_26) ∧
  ∃ (t47_27 : Int), w_25.cell? ((⟨w_7.heap.size, 0, none⟩ : Addr).add 2) = some (.int .i64 t47_27) ∧
  ((series3_4 > (IntKind.i64.wrap (t45_26 - t47_27)) →
  K 150 w_25) ∧
  (¬ (series3_4 > (IntKind.i64.wrap (t45_26 - t47_27))) →
  ∃ (t53_28 : Int), w_25.cell? ((⟨w_7.heap.size, 0, none⟩ : Addr).add 1) = some (.int .i64 t53_28) ∧
  ((samples4_5 > (IntKind.i64.wrap (t53_28 - t39_23)) →
  K 151 w_25) ∧
  (¬ (samples4_5 > (IntKind.i64.wrap (t53_28 - t39_23))) →
  ∃ (t58_29 : Int), w_25.cell? ((⟨w_7.heap.size, 0, none⟩ : Addr).add 2) = some (.int .i64 t58_29) ∧
  HasCell w_25 ((⟨w_7.heap.size, 0, none⟩ : Addr).add 2) ∧ ∀ (w_30 : World), w_30 = w_25.setCell ((⟨w_7.heap.size, 0, none⟩ : Addr).add 2) (.int .i64 (IntKind.i64.wrap (t58_29 + series3_4)) : Value) →
  HasCell w_30 ((⟨w_7.heap.size, 0, none⟩ : Addr).add 3) ∧ ∀ (w_31 : World), w_31 = w_30.setCell ((⟨w_7.heap.size, 0, none⟩ : Addr).add 3) (.int .i64 (IntKind.i64.wrap (t39_23 + samples4_5)) : Value) →
  HasCell w_31 ((⟨w_7.heap.size, 0, none⟩ : Addr).add 4) ∧ ∀ (w_32 : World), w_32 = w_31.setCell ((⟨w_7.heap.size, 0, none⟩ : Addr).add 4) (.int .i64 t39_24 : Value) →
  ∀ (w_33 : World), w_33 = w_32.drew →
  ∃ (a_34 : Addr), q0_1 = some a_34 ∧
  ∃ (t71_35 : Sl), w_33.cell? a_34 = some (.slice t71_35.a t71_35.n t71_35.c) ∧
  ∃ (t73_36 : Int), ∃ (t73_37 : Int), ∃ (t73_38 : Int), ∃ (t73_39 : Int), ∃ (t73_40 : Int), CellsAt w_33 (⟨w_7.heap.size, 0, none⟩ : Addr) 0 [.int .i64 t73_36, .int .i64 t73_37, .int .i64 t73_38, .int .i64 t73_39, .int .i64 t73_40] ∧
  (0 : Int) ≤ t17_6 ∧ t17_6 < (t71_35.n : Int) ∧ ∃ (a_41 : Addr), t71_35.a = some a_41 ∧
  HasCells w_33 ((a_41.add (Int.toNat t17_6 * 6)).add 1) 0 5 ∧ ∀ (w_42 : World), w_42 = setCells w_33 ((a_41.add (Int.toNat t17_6 * 6)).add 1) 0 [.int .i64 t73_36, .int .i64 t73_37, .int .i64 t73_38, .int .i64 t73_39, .int .i64 t73_40] → 
  K 0 w_42))))))))))
set_option maxHeartbeats 4000000 in
set_option maxRecDepth 20000 in
theorem F66_sound (q0_1 : Option Addr) (tenant1_2 : ByteArray) (window2_3 : Int) (series3_4 : Int) (samples4_5 : Int) (K : Int → World → Prop) (w : World) (h : F66 q0_1 tenant1_2 window2_3 series3_4 samples4_5 K w) :
    Calls Try.prog 66 #[.pointer q0_1, .string tenant1_2, .int .i64 window2_3, .int .i64 series3_4, .int .i64 samples4_5] w (fun e w1 => ∃ (r0 : Int), e = .returned (.int .i64 r0 : Value) ∧ K r0 w1) := by
  unfold F66 at h
  refine y_enter (n := 76) (args := [.pointer q0_1, .string tenant1_2, .int .i64 window2_3, .int .i64 series3_4, .int .i64 samples4_5]) Try.func66 rfl rfl rfl fun Q0 hQ0 => ?_
  refine y_seq fun K1 hK1 => ?_
  refine y_region ?_
  refine y_k (.int .i64 0 : Value) w rfl rfl rfl (by kernel_rfl) ?_
  refine y_nil ?_
  refine y_then (hK1 _ _ ?_)
  refine y_seq fun K2 hK2 => ?_
  refine y_region ?_
  refine y_k (.pointer q0_1 : Value) w rfl rfl rfl (by kernel_rfl) ?_
  refine y_k (.string tenant1_2 : Value) w rfl rfl rfl (by kernel_rfl) ?_
  refine y_call rfl rfl rfl (by kernel_rfl) (h.mono ?_)
  rintro _ w_7 ⟨t17_6, rfl, h⟩
  refine ⟨_, rfl, ?_⟩
  refine y_k (.int .i64 t17_6 : Value) w_7 rfl rfl rfl (by kernel_rfl) ?_
  refine y_nil ?_
  refine y_then (hK2 _ _ ?_)
  refine y_seq fun K3 hK3 => ?_
  refine y_block ?_
  refine y_seq fun K5 hK5 => ?_
  refine y_region ?_
  refine y_k (.int .i64 t17_6 : Value) w_7 rfl rfl rfl (by kernel_rfl) ?_
  refine y_k (.bool (decide (t17_6 < 0)) : Value) w_7 rfl rfl rfl (by kernel_rfl) ?_
  refine y_k (.bool (decide (t17_6 < 0)) : Value) w_7 rfl rfl rfl (by kernel_rfl) ?_
  refine y_nil ?_
  refine y_then (hK5 _ _ ?_)
  refine y_cond (decide (t17_6 < 0)) rfl rfl (fun hb46 => ?_) (fun hb46 => ?_)
  · replace h := h.1 (of_decide_eq_true hb46)
    refine y_seq fun K6 hK6 => ?_
    refine y_region ?_
    refine y_k (.int .i64 171 : Value) w_7 rfl rfl rfl (by kernel_rfl) ?_
    refine y_nil ?_
    refine y_then (hK6 _ _ ?_)
    refine y_ret ?_
    repeat (first | refine e_then_r ?_ | refine e_block_r ?_)
    exact (hQ0 _ _ _ (res1 (v := (.int .i64 171 : Value)) rfl rfl rfl) ⟨_, rfl, h⟩).1
  · replace h := h.2 (of_decide_eq_false hb46)
    refine y_seq fun K7 hK7 => ?_
    refine y_region ?_
    refine y_k (.int .i64 series3_4 : Value) w_7 rfl rfl rfl (by kernel_rfl) ?_
    refine y_k (.bool (decide (series3_4 < 0)) : Value) w_7 rfl rfl rfl (by kernel_rfl) ?_
    refine y_k (.bool (decide (series3_4 < 0)) : Value) w_7 rfl rfl rfl (by kernel_rfl) ?_
    refine y_fork (decide (series3_4 < 0)) (fun hb8 => ?_) (fun hb8 => ?_)
    · replace h := h.1 (of_decide_eq_true hb8)
      refine y_frame (upd_id (i := 24) (v := .bool true) rfl (congrArg Value.bool hb8)) ?_
      refine y_gno rfl rfl rfl rfl ?_
      refine y_gno rfl rfl rfl rfl ?_
      refine y_k (.bool true : Value) w_7 rfl rfl rfl (by kernel_rfl) ?_
      refine y_k (.bool true : Value) w_7 rfl rfl rfl (by kernel_rfl) ?_
      refine y_nil ?_
      refine y_then (hK7 _ _ ?_)
      refine y_cond_t rfl rfl ?_
      refine y_seq fun K9 hK9 => ?_
      refine y_region ?_
      refine y_k (.int .i64 1 : Value) w_7 rfl rfl rfl (by kernel_rfl) ?_
      refine y_nil ?_
      refine y_then (hK9 _ _ ?_)
      refine y_ret ?_
      repeat (first | refine e_then_r ?_ | refine e_block_r ?_)
      exact (hQ0 _ _ _ (res1 (v := (.int .i64 1 : Value)) rfl rfl rfl) ⟨_, rfl, h⟩).1
    · replace h := h.2 (of_decide_eq_false hb8)
      refine y_frame (upd_id (i := 24) (v := .bool false) rfl (congrArg Value.bool hb8)) ?_
      refine y_gyes rfl rfl rfl ?_
      refine y_k (.int .i64 samples4_5 : Value) w_7 rfl rfl rfl (by kernel_rfl) ?_
      refine y_gyes rfl rfl rfl ?_
      refine y_k (.bool (decide (samples4_5 < 0)) : Value) w_7 rfl rfl rfl (by kernel_rfl) ?_
      refine y_k (.bool (decide (samples4_5 < 0)) : Value) w_7 rfl rfl rfl (by kernel_rfl) ?_
      refine y_k (.bool (decide (samples4_5 < 0)) : Value) w_7 rfl rfl rfl (by kernel_rfl) ?_
      refine y_nil ?_
      refine y_then (hK7 _ _ ?_)
      refine y_cond (decide (samples4_5 < 0)) rfl rfl (fun hb45 => ?_) (fun hb45 => ?_)
      · replace h := h.1 (of_decide_eq_true hb45)
        refine y_seq fun K10 hK10 => ?_
        refine y_region ?_
        refine y_k (.int .i64 1 : Value) w_7 rfl rfl rfl (by kernel_rfl) ?_
        refine y_nil ?_
        refine y_then (hK10 _ _ ?_)
        refine y_ret ?_
        repeat (first | refine e_then_r ?_ | refine e_block_r ?_)
        exact (hQ0 _ _ _ (res1 (v := (.int .i64 1 : Value)) rfl rfl rfl) ⟨_, rfl, h⟩).1
      · replace h := h.2 (of_decide_eq_false hb45)
        refine y_skip ?_
        refine e_block_n ?_
        refine y_then (hK3 _ _ ?_)
        refine y_seq fun K11 hK11 => ?_
        refine y_region ?_
        refine y_k (.pointer q0_1 : Value) w_7 rfl rfl rfl (by kernel_rfl) ?_
        obtain ⟨a_8, hx12, h⟩ := h
        refine y_k (.pointer (some a_8) : Value) w_7 rfl rfl rfl (run_nilCheck hx12 rfl) ?_
        refine y_k (.pointer (some a_8) : Value) w_7 rfl rfl rfl (by kernel_rfl) ?_
        obtain ⟨t31_9, hx13, h⟩ := h
        refine y_v (s := Instr.loadAt 119 (.pointer (some a_8))) rfl rfl rfl (by kernel_rfl) (rn_load (by kernel_rfl) hx13) ?_
        refine y_k (.int .i64 t17_6 : Value) w_7 rfl rfl rfl (by kernel_rfl) ?_
        obtain ⟨hx14a, hx14b, a_10, hx14, h⟩ := h
        refine y_v (v := (.pointer (some (a_10.add (Int.toNat t17_6 * 6))) : Value)) (s := Instr.indexAt 119 (.slice t31_9.a t31_9.n t31_9.c : Value) (.int .i64 t17_6 : Value)) rfl rfl rfl (by kernel_rfl) (run_ixs (el := 127) (by kernel_rfl) (by kernel_rfl) hx14 hx14a hx14b) ?_
        refine y_k (.pointer (some ((a_10.add (Int.toNat t17_6 * 6)).add 1)) : Value) w_7 rfl rfl rfl (by kernel_rfl) ?_
        obtain ⟨t35_11, t35_12, t35_13, t35_14, t35_15, hx15, h⟩ := h
        refine y_v (s := Instr.loadAt 87 (.pointer (some ((a_10.add (Int.toNat t17_6 * 6)).add 1)))) rfl rfl rfl (by kernel_rfl) (rn_loadcells (k := 5) ⟨by kernel_rfl, by kernel_rfl⟩ rfl hx15) ?_
        refine y_k (.pointer (some (⟨w_7.heap.size, 0, none⟩ : Addr)) : Value) (w_7.alloc (.cells #[.int .i64 0, .int .i64 0, .int .i64 0, .int .i64 0, .int .i64 0] 87)) rfl rfl rfl (by kernel_rfl) ?_
        replace h := h _ rfl
        generalize w_7.alloc (.cells #[.int .i64 0, .int .i64 0, .int .i64 0, .int .i64 0, .int .i64 0] 87) = w_16 at h ⊢
        obtain ⟨hx16, h⟩ := h
        replace h := h _ rfl
        refine y_u (s := Instr.storeAt 87 (.pointer (some (⟨w_7.heap.size, 0, none⟩ : Addr))) (.agg #[.int .i64 t35_11, .int .i64 t35_12, .int .i64 t35_13, .int .i64 t35_14, .int .i64 t35_15] : Value)) rfl rfl (by kernel_rfl) (rn_storecells (k := 5) (cs := [.int .i64 t35_11, .int .i64 t35_12, .int .i64 t35_13, .int .i64 t35_14, .int .i64 t35_15]) (by kernel_rfl) rfl (by simp [Value.oneCell']) hx16) ?_
        generalize setCells w_16 (⟨w_7.heap.size, 0, none⟩ : Addr) 0 [.int .i64 t35_11, .int .i64 t35_12, .int .i64 t35_13, .int .i64 t35_14, .int .i64 t35_15] = w_17 at h ⊢
        refine y_nil ?_
        refine y_then (hK11 _ _ ?_)
        refine y_seq fun K17 hK17 => ?_
        refine y_region ?_
        obtain ⟨t37_18, t37_19, t37_20, t37_21, t37_22, hx18, h⟩ := h
        refine y_v (s := Instr.loadAt 87 (.pointer (some (⟨w_7.heap.size, 0, none⟩ : Addr)))) rfl rfl rfl (by kernel_rfl) (rn_loadcells (k := 5) ⟨by kernel_rfl, by kernel_rfl⟩ rfl hx18) ?_
        refine y_k (.int .i64 window2_3 : Value) w_17 rfl rfl rfl (by kernel_rfl) ?_
        refine y_call rfl rfl rfl (by kernel_rfl) (h.mono ?_)
        rintro _ w_25 ⟨t39_23, t39_24, rfl, h⟩
        refine ⟨_, rfl, ?_⟩
        refine y_k (.tuple #[.int .i64 t39_23, .int .i64 t39_24] : Value) w_25 rfl rfl rfl (by kernel_rfl) ?_
        refine y_k (.int .i64 t39_23 : Value) w_25 rfl rfl rfl (by kernel_rfl) ?_
        refine y_k (.int .i64 t39_24 : Value) w_25 rfl rfl rfl (by kernel_rfl) ?_
        refine y_k (.int .i64 t39_23 : Value) w_25 rfl rfl rfl (by kernel_rfl) ?_
        refine y_k (.int .i64 t39_24 : Value) w_25 rfl rfl rfl (by kernel_rfl) ?_
        refine y_nil ?_
        refine y_then (hK17 _ _ ?_)
        refine y_seq fun K19 hK19 => ?_
        refine y_block ?_
        refine y_seq fun K21 hK21 => ?_
        refine y_region ?_
        refine y_k (.int .i64 series3_4 : Value) w_25 rfl rfl rfl (by kernel_rfl) ?_
        refine y_k (.pointer (some (⟨w_7.heap.size, 0, none⟩ : Addr)) : Value) w_25 rfl rfl rfl (by kernel_rfl) ?_
        obtain ⟨t45_26, hx22, h⟩ := h
        refine y_v (s := Instr.loadAt 3 (.pointer (some (⟨w_7.heap.size, 0, none⟩ : Addr)))) rfl rfl rfl (by kernel_rfl) (rn_load (by kernel_rfl) hx22) ?_
        refine y_k (.pointer (some ((⟨w_7.heap.size, 0, none⟩ : Addr).add 2)) : Value) w_25 rfl rfl rfl (by kernel_rfl) ?_
        obtain ⟨t47_27, hx23, h⟩ := h
        refine y_v (s := Instr.loadAt 3 (.pointer (some ((⟨w_7.heap.size, 0, none⟩ : Addr).add 2)))) rfl rfl rfl (by kernel_rfl) (rn_load (by kernel_rfl) hx23) ?_
        refine y_k (.int .i64 (IntKind.i64.wrap (t45_26 - t47_27)) : Value) w_25 rfl rfl rfl (by kernel_rfl) ?_
        refine y_k (.bool (decide (series3_4 > (IntKind.i64.wrap (t45_26 - t47_27)))) : Value) w_25 rfl rfl rfl (by kernel_rfl) ?_
        refine y_k (.bool (decide (series3_4 > (IntKind.i64.wrap (t45_26 - t47_27)))) : Value) w_25 rfl rfl rfl (by kernel_rfl) ?_
        refine y_nil ?_
        refine y_then (hK21 _ _ ?_)
        refine y_cond (decide (series3_4 > (IntKind.i64.wrap (t45_26 - t47_27)))) rfl rfl (fun hb44 => ?_) (fun hb44 => ?_)
        · replace h := h.1 (of_decide_eq_true hb44)
          refine y_seq fun K24 hK24 => ?_
          refine y_region ?_
          refine y_k (.int .i64 150 : Value) w_25 rfl rfl rfl (by kernel_rfl) ?_
          refine y_nil ?_
          refine y_then (hK24 _ _ ?_)
          refine y_ret ?_
          repeat (first | refine e_then_r ?_ | refine e_block_r ?_)
          exact (hQ0 _ _ _ (res1 (v := (.int .i64 150 : Value)) rfl rfl rfl) ⟨_, rfl, h⟩).1
        · replace h := h.2 (of_decide_eq_false hb44)
          refine y_seq fun K25 hK25 => ?_
          refine y_region ?_
          refine y_k (.int .i64 samples4_5 : Value) w_25 rfl rfl rfl (by kernel_rfl) ?_
          refine y_k (.pointer (some ((⟨w_7.heap.size, 0, none⟩ : Addr).add 1)) : Value) w_25 rfl rfl rfl (by kernel_rfl) ?_
          obtain ⟨t53_28, hx26, h⟩ := h
          refine y_v (s := Instr.loadAt 3 (.pointer (some ((⟨w_7.heap.size, 0, none⟩ : Addr).add 1)))) rfl rfl rfl (by kernel_rfl) (rn_load (by kernel_rfl) hx26) ?_
          refine y_k (.int .i64 t39_23 : Value) w_25 rfl rfl rfl (by kernel_rfl) ?_
          refine y_k (.int .i64 (IntKind.i64.wrap (t53_28 - t39_23)) : Value) w_25 rfl rfl rfl (by kernel_rfl) ?_
          refine y_k (.bool (decide (samples4_5 > (IntKind.i64.wrap (t53_28 - t39_23)))) : Value) w_25 rfl rfl rfl (by kernel_rfl) ?_
          refine y_k (.bool (decide (samples4_5 > (IntKind.i64.wrap (t53_28 - t39_23)))) : Value) w_25 rfl rfl rfl (by kernel_rfl) ?_
          refine y_nil ?_
          refine y_then (hK25 _ _ ?_)
          refine y_cond (decide (samples4_5 > (IntKind.i64.wrap (t53_28 - t39_23)))) rfl rfl (fun hb43 => ?_) (fun hb43 => ?_)
          · replace h := h.1 (of_decide_eq_true hb43)
            refine y_seq fun K27 hK27 => ?_
            refine y_region ?_
            refine y_k (.int .i64 151 : Value) w_25 rfl rfl rfl (by kernel_rfl) ?_
            refine y_nil ?_
            refine y_then (hK27 _ _ ?_)
            refine y_ret ?_
            repeat (first | refine e_then_r ?_ | refine e_block_r ?_)
            exact (hQ0 _ _ _ (res1 (v := (.int .i64 151 : Value)) rfl rfl rfl) ⟨_, rfl, h⟩).1
          · replace h := h.2 (of_decide_eq_false hb43)
            refine y_skip ?_
            refine e_block_n ?_
            refine y_then (hK19 _ _ ?_)
            refine y_seq fun K28 hK28 => ?_
            refine y_region ?_
            refine y_k (.pointer (some ((⟨w_7.heap.size, 0, none⟩ : Addr).add 2)) : Value) w_25 rfl rfl rfl (by kernel_rfl) ?_
            obtain ⟨t58_29, hx29, h⟩ := h
            refine y_v (s := Instr.loadAt 3 (.pointer (some ((⟨w_7.heap.size, 0, none⟩ : Addr).add 2)))) rfl rfl rfl (by kernel_rfl) (rn_load (by kernel_rfl) hx29) ?_
            refine y_k (.int .i64 series3_4 : Value) w_25 rfl rfl rfl (by kernel_rfl) ?_
            refine y_k (.int .i64 (IntKind.i64.wrap (t58_29 + series3_4)) : Value) w_25 rfl rfl rfl (by kernel_rfl) ?_
            refine y_k (.pointer (some ((⟨w_7.heap.size, 0, none⟩ : Addr).add 2)) : Value) w_25 rfl rfl rfl (by kernel_rfl) ?_
            obtain ⟨hx30, h⟩ := h
            replace h := h _ rfl
            refine y_u (s := Instr.storeAt 3 (.pointer (some ((⟨w_7.heap.size, 0, none⟩ : Addr).add 2))) (.int .i64 (IntKind.i64.wrap (t58_29 + series3_4)) : Value)) rfl rfl (by kernel_rfl) (rn_store1 (by kernel_rfl) rfl hx30) ?_
            generalize w_25.setCell ((⟨w_7.heap.size, 0, none⟩ : Addr).add 2) (.int .i64 (IntKind.i64.wrap (t58_29 + series3_4)) : Value) = w_30 at h ⊢
            refine y_nil ?_
            refine y_then (hK28 _ _ ?_)
            refine y_seq fun K31 hK31 => ?_
            refine y_region ?_
            refine y_k (.int .i64 t39_23 : Value) w_30 rfl rfl rfl (by kernel_rfl) ?_
            refine y_k (.int .i64 samples4_5 : Value) w_30 rfl rfl rfl (by kernel_rfl) ?_
            refine y_k (.int .i64 (IntKind.i64.wrap (t39_23 + samples4_5)) : Value) w_30 rfl rfl rfl (by kernel_rfl) ?_
            refine y_k (.pointer (some ((⟨w_7.heap.size, 0, none⟩ : Addr).add 3)) : Value) w_30 rfl rfl rfl (by kernel_rfl) ?_
            obtain ⟨hx32, h⟩ := h
            replace h := h _ rfl
            refine y_u (s := Instr.storeAt 3 (.pointer (some ((⟨w_7.heap.size, 0, none⟩ : Addr).add 3))) (.int .i64 (IntKind.i64.wrap (t39_23 + samples4_5)) : Value)) rfl rfl (by kernel_rfl) (rn_store1 (by kernel_rfl) rfl hx32) ?_
            generalize w_30.setCell ((⟨w_7.heap.size, 0, none⟩ : Addr).add 3) (.int .i64 (IntKind.i64.wrap (t39_23 + samples4_5)) : Value) = w_31 at h ⊢
            refine y_nil ?_
            refine y_then (hK31 _ _ ?_)
            refine y_seq fun K33 hK33 => ?_
            refine y_region ?_
            refine y_k (.int .i64 t39_24 : Value) w_31 rfl rfl rfl (by kernel_rfl) ?_
            refine y_k (.pointer (some ((⟨w_7.heap.size, 0, none⟩ : Addr).add 4)) : Value) w_31 rfl rfl rfl (by kernel_rfl) ?_
            obtain ⟨hx34, h⟩ := h
            replace h := h _ rfl
            refine y_u (s := Instr.storeAt 2 (.pointer (some ((⟨w_7.heap.size, 0, none⟩ : Addr).add 4))) (.int .i64 t39_24 : Value)) rfl rfl (by kernel_rfl) (rn_store1 (by kernel_rfl) rfl hx34) ?_
            generalize w_31.setCell ((⟨w_7.heap.size, 0, none⟩ : Addr).add 4) (.int .i64 t39_24 : Value) = w_32 at h ⊢
            refine y_nil ?_
            refine y_then (hK33 _ _ ?_)
            refine y_seq fun K35 hK35 => ?_
            obtain ⟨w_33, hwd36⟩ : ∃ wd : World, wd = w_32.drew := ⟨_, rfl⟩
            replace h := h _ hwd36
            refine t_region (wd := w_33) [] (by kernel_rfl) hwd36 SF_nil fun Q36 hE36 hp36 hS => ?_
            clear hwd36
            refine t_kw hp36 hS 0 (.pointer q0_1 : Value) rfl (wanted_none rfl) rfl rfl (by kernel_rfl) (fun _ _ => by kernel_rfl) fun hS => ?_
            obtain ⟨a_34, hx37, h⟩ := h
            refine t_kw hp36 hS 1 (.pointer (some a_34) : Value) rfl (wanted_none rfl) rfl rfl (by kernel_rfl) (fun _ _ => run_nilCheck hx37 rfl) fun hS => ?_
            refine t_kw hp36 hS 2 (.pointer (some a_34) : Value) rfl (wanted_none rfl) rfl rfl (by kernel_rfl) (fun _ _ => by kernel_rfl) fun hS => ?_
            obtain ⟨t71_35, hx38, h⟩ := h
            refine t_add ⟨3, [8], fun wx => wx.cell? a_34 = some (.slice t71_35.a t71_35.n t71_35.c)⟩ ?_
            replace hS := SF_on (x := ⟨3, [8], fun wx => wx.cell? a_34 = some (.slice t71_35.a t71_35.n t71_35.c)⟩) hx38 hS
            refine t_v (s := Instr.loadAt 119 (.pointer (some a_34))) hp36 hS 3 (.slice t71_35.a t71_35.n t71_35.c : Value) rfl (wanted_none rfl) rfl rfl (by kernel_rfl) (by kernel_rfl) (fun _ hw => rn_load (by kernel_rfl) (Sw.fact (List.Mem.head _) rfl hw)) fun hS => ?_
            refine t_kw hp36 hS 4 (.int .i64 t17_6 : Value) rfl (wanted_none rfl) rfl rfl (by kernel_rfl) (fun _ _ => by kernel_rfl) fun hS => ?_
            obtain ⟨t73_36, t73_37, t73_38, t73_39, t73_40, hx39, h⟩ := h
            refine t_add ⟨5, [8], fun wx => CellsAt wx (⟨w_7.heap.size, 0, none⟩ : Addr) 0 [.int .i64 t73_36, .int .i64 t73_37, .int .i64 t73_38, .int .i64 t73_39, .int .i64 t73_40]⟩ ?_
            replace hS := SF_on (x := ⟨5, [8], fun wx => CellsAt wx (⟨w_7.heap.size, 0, none⟩ : Addr) 0 [.int .i64 t73_36, .int .i64 t73_37, .int .i64 t73_38, .int .i64 t73_39, .int .i64 t73_40]⟩) hx39 hS
            refine t_v (s := Instr.loadAt 87 (.pointer (some (⟨w_7.heap.size, 0, none⟩ : Addr)))) hp36 hS 5 (.agg #[.int .i64 t73_36, .int .i64 t73_37, .int .i64 t73_38, .int .i64 t73_39, .int .i64 t73_40] : Value) rfl (wanted_none rfl) rfl rfl (by kernel_rfl) (by kernel_rfl) (fun _ hw => rn_loadcells (k := 5) ⟨by kernel_rfl, by kernel_rfl⟩ rfl (Sw.fact (List.Mem.head _) rfl hw)) fun hS => ?_
            obtain ⟨hx40a, hx40b, a_41, hx40, h⟩ := h
            refine t_v (s := Instr.indexAt 119 (.slice t71_35.a t71_35.n t71_35.c : Value) (.int .i64 t17_6 : Value)) hp36 hS 6 (.pointer (some (a_41.add (Int.toNat t17_6 * 6))) : Value) rfl (wanted_none rfl) rfl rfl (by kernel_rfl) (by kernel_rfl) (fun _ _ => run_ixs (el := 127) (by kernel_rfl) (by kernel_rfl) hx40 hx40a hx40b) fun hS => ?_
            refine t_kw hp36 hS 7 (.pointer (some ((a_41.add (Int.toNat t17_6 * 6)).add 1)) : Value) rfl (wanted_none rfl) rfl rfl (by kernel_rfl) (fun _ _ => by kernel_rfl) fun hS => ?_
            obtain ⟨hx41, h⟩ := h
            replace h := h _ rfl
            refine t_u 8 (s := Instr.storeAt 87 (.pointer (some ((a_41.add (Int.toNat t17_6 * 6)).add 1))) (.agg #[.int .i64 t73_36, .int .i64 t73_37, .int .i64 t73_38, .int .i64 t73_39, .int .i64 t73_40] : Value)) (by kernel_rfl) rfl (wanted_none rfl) rfl (by kernel_rfl) (rn_storecells (k := 5) (cs := [.int .i64 t73_36, .int .i64 t73_37, .int .i64 t73_38, .int .i64 t73_39, .int .i64 t73_40]) (by kernel_rfl) rfl (by simp [Value.oneCell']) hx41) (SF_off (by kernel_rfl) (by kernel_rfl) (SF_off (by kernel_rfl) (by kernel_rfl) SF_nil)) fun hS => ?_
            generalize setCells w_33 ((a_41.add (Int.toNat t17_6 * 6)).add 1) 0 [.int .i64 t73_36, .int .i64 t73_37, .int .i64 t73_38, .int .i64 t73_39, .int .i64 t73_40] = w_42 at hS h ⊢
            refine t_done (by kernel_rfl) (hE36 _ _ ?_)
            refine y_then (hK35 _ _ ?_)
            refine y_seq fun K42 hK42 => ?_
            refine y_region ?_
            refine y_k (.int .i64 0 : Value) w_42 rfl rfl rfl (by kernel_rfl) ?_
            refine y_nil ?_
            refine y_then (hK42 _ _ ?_)
            refine y_ret ?_
            repeat (first | refine e_then_r ?_ | refine e_block_r ?_)
            exact (hQ0 _ _ _ (res1 (v := (.int .i64 0 : Value)) rfl rfl rfl) ⟨_, rfl, h⟩).1

/-- (*turnkey/turnkeyref15.Book).Get -/
def F68 (q0_1 : Option Addr) (tenant1_2 : ByteArray) (K : Int → Int → Int → Int → Int → Bool → World → Prop) (w : World) : Prop :=
  ∀ (w_3 : World), w_3 = w.alloc (.cells #[.int .i64 0, .int .i64 0, .int .i64 0, .int .i64 0, .int .i64 0] 87) →
  Calls Try.prog 73 #[.pointer q0_1, .string tenant1_2] w_3 fun e w_5 => ∃ (t9_4 : Int), e = .returned (.int .i64 t9_4 : Value) ∧
  ((t9_4 < 0 →
  HasCells w_5 (⟨w.heap.size, 0, none⟩ : Addr) 0 5 ∧ ∀ (w_6 : World), w_6 = setCells w_5 (⟨w.heap.size, 0, none⟩ : Addr) 0 [.int .i64 0, .int .i64 0, .int .i64 0, .int .i64 0, .int .i64 0] →
  ∃ (r0_7 : Int), ∃ (r0_8 : Int), ∃ (r0_9 : Int), ∃ (r0_10 : Int), ∃ (r0_11 : Int), CellsAt w_6 (⟨w.heap.size, 0, none⟩ : Addr) 0 [.int .i64 r0_7, .int .i64 r0_8, .int .i64 r0_9, .int .i64 r0_10, .int .i64 r0_11] ∧
  K r0_7 r0_8 r0_9 r0_10 r0_11 false w_6) ∧
  (¬ (t9_4 < 0) →
  ∃ (a_12 : Addr), q0_1 = some a_12 ∧
  ∃ (t16_13 : Sl), w_5.cell? a_12 = some (.slice t16_13.a t16_13.n t16_13.c) ∧
  (0 : Int) ≤ t9_4 ∧ t9_4 < (t16_13.n : Int) ∧ ∃ (a_14 : Addr), t16_13.a = some a_14 ∧
  ∃ (t20_15 : Int), ∃ (t20_16 : Int), ∃ (t20_17 : Int), ∃ (t20_18 : Int), ∃ (t20_19 : Int), CellsAt w_5 ((a_14.add (Int.toNat t9_4 * 6)).add 1) 0 [.int .i64 t20_15, .int .i64 t20_16, .int .i64 t20_17, .int .i64 t20_18, .int .i64 t20_19] ∧
  HasCells w_5 (⟨w.heap.size, 0, none⟩ : Addr) 0 5 ∧ ∀ (w_20 : World), w_20 = setCells w_5 (⟨w.heap.size, 0, none⟩ : Addr) 0 [.int .i64 t20_15, .int .i64 t20_16, .int .i64 t20_17, .int .i64 t20_18, .int .i64 t20_19] →
  ∃ (r0_21 : Int), ∃ (r0_22 : Int), ∃ (r0_23 : Int), ∃ (r0_24 : Int), ∃ (r0_25 : Int), CellsAt w_20 (⟨w.heap.size, 0, none⟩ : Addr) 0 [.int .i64 r0_21, .int .i64 r0_22, .int .i64 r0_23, .int .i64 r0_24, .int .i64 r0_25] ∧
  K r0_21 r0_22 r0_23 r0_24 r0_25 true w_20))
set_option maxHeartbeats 4000000 in
set_option maxRecDepth 20000 in
theorem F68_sound (q0_1 : Option Addr) (tenant1_2 : ByteArray) (K : Int → Int → Int → Int → Int → Bool → World → Prop) (w : World) (h : F68 q0_1 tenant1_2 K w) :
    Calls Try.prog 68 #[.pointer q0_1, .string tenant1_2] w (fun e w1 => ∃ (r0 : Int), ∃ (r1 : Int), ∃ (r2 : Int), ∃ (r3 : Int), ∃ (r4 : Int), ∃ (r5 : Bool), e = .returned (.tuple #[.agg #[.int .i64 r0, .int .i64 r1, .int .i64 r2, .int .i64 r3, .int .i64 r4], .bool r5]) ∧ K r0 r1 r2 r3 r4 r5 w1) := by
  unfold F68 at h
  refine y_enter (n := 21) (args := [.pointer q0_1, .string tenant1_2]) Try.func68 rfl rfl rfl fun Q0 hQ0 => ?_
  refine y_seq fun K1 hK1 => ?_
  refine y_region ?_
  refine y_k (.pointer (some (⟨w.heap.size, 0, none⟩ : Addr)) : Value) (w.alloc (.cells #[.int .i64 0, .int .i64 0, .int .i64 0, .int .i64 0, .int .i64 0] 87)) rfl rfl rfl (by kernel_rfl) ?_
  replace h := h _ rfl
  generalize w.alloc (.cells #[.int .i64 0, .int .i64 0, .int .i64 0, .int .i64 0, .int .i64 0] 87) = w_3 at h ⊢
  refine y_k (.bool false : Value) w_3 rfl rfl rfl (by kernel_rfl) ?_
  refine y_nil ?_
  refine y_then (hK1 _ _ ?_)
  refine y_seq fun K2 hK2 => ?_
  refine y_region ?_
  refine y_k (.pointer q0_1 : Value) w_3 rfl rfl rfl (by kernel_rfl) ?_
  refine y_k (.string tenant1_2 : Value) w_3 rfl rfl rfl (by kernel_rfl) ?_
  refine y_call rfl rfl rfl (by kernel_rfl) (h.mono ?_)
  rintro _ w_5 ⟨t9_4, rfl, h⟩
  refine ⟨_, rfl, ?_⟩
  refine y_k (.int .i64 t9_4 : Value) w_5 rfl rfl rfl (by kernel_rfl) ?_
  refine y_nil ?_
  refine y_then (hK2 _ _ ?_)
  refine y_seq fun K3 hK3 => ?_
  refine y_seq fun K4 hK4 => ?_
  refine y_region ?_
  refine y_k (.int .i64 t9_4 : Value) w_5 rfl rfl rfl (by kernel_rfl) ?_
  refine y_k (.bool (decide (t9_4 < 0)) : Value) w_5 rfl rfl rfl (by kernel_rfl) ?_
  refine y_nil ?_
  refine y_then (hK4 _ _ ?_)
  refine y_cond (decide (t9_4 < 0)) rfl rfl (fun hb15 => ?_) (fun hb15 => ?_)
  · replace h := h.1 (of_decide_eq_true hb15)
    refine y_seq fun K5 hK5 => ?_
    refine y_region ?_
    refine y_k (.agg #[.int .i64 0, .int .i64 0, .int .i64 0, .int .i64 0, .int .i64 0] : Value) w_5 rfl rfl rfl (by kernel_rfl) ?_
    obtain ⟨hx6, h⟩ := h
    replace h := h _ rfl
    refine y_u (s := Instr.storeAt 87 (.pointer (some (⟨w.heap.size, 0, none⟩ : Addr))) (.agg #[.int .i64 0, .int .i64 0, .int .i64 0, .int .i64 0, .int .i64 0] : Value)) rfl rfl (by kernel_rfl) (rn_storecells (k := 5) (cs := [.int .i64 0, .int .i64 0, .int .i64 0, .int .i64 0, .int .i64 0]) (by kernel_rfl) rfl (by simp [Value.oneCell']) hx6) ?_
    generalize setCells w_5 (⟨w.heap.size, 0, none⟩ : Addr) 0 [.int .i64 0, .int .i64 0, .int .i64 0, .int .i64 0, .int .i64 0] = w_6 at h ⊢
    refine y_k (.bool false : Value) w_6 rfl rfl rfl (by kernel_rfl) ?_
    refine y_nil ?_
    refine y_then (hK5 _ _ ?_)
    refine y_ret ?_
    repeat (first | refine e_then_r ?_ | refine e_block_r ?_)
    obtain ⟨r0_7, r0_8, r0_9, r0_10, r0_11, hx7, h⟩ := h
    exact (hQ0 _ _ _ (rs2 rfl (rs_cell (v := (.agg #[.int .i64 r0_7, .int .i64 r0_8, .int .i64 r0_9, .int .i64 r0_10, .int .i64 r0_11] : Value)) (ad := (⟨w.heap.size, 0, none⟩ : Addr)) rfl rfl (rn_loadcells (k := 5) ⟨by kernel_rfl, by kernel_rfl⟩ rfl hx7)) (rs_tmp (v := (.bool false : Value)) rfl rfl)) ⟨_, _, _, _, _, _, rfl, h⟩).1
  · replace h := h.2 (of_decide_eq_false hb15)
    refine y_skip ?_
    refine y_then (hK3 _ _ ?_)
    refine y_seq fun K8 hK8 => ?_
    refine y_region ?_
    refine y_k (.pointer q0_1 : Value) w_5 rfl rfl rfl (by kernel_rfl) ?_
    obtain ⟨a_12, hx9, h⟩ := h
    refine y_k (.pointer (some a_12) : Value) w_5 rfl rfl rfl (run_nilCheck hx9 rfl) ?_
    refine y_k (.pointer (some a_12) : Value) w_5 rfl rfl rfl (by kernel_rfl) ?_
    obtain ⟨t16_13, hx10, h⟩ := h
    refine y_v (s := Instr.loadAt 119 (.pointer (some a_12))) rfl rfl rfl (by kernel_rfl) (rn_load (by kernel_rfl) hx10) ?_
    refine y_k (.int .i64 t9_4 : Value) w_5 rfl rfl rfl (by kernel_rfl) ?_
    obtain ⟨hx11a, hx11b, a_14, hx11, h⟩ := h
    refine y_v (v := (.pointer (some (a_14.add (Int.toNat t9_4 * 6))) : Value)) (s := Instr.indexAt 119 (.slice t16_13.a t16_13.n t16_13.c : Value) (.int .i64 t9_4 : Value)) rfl rfl rfl (by kernel_rfl) (run_ixs (el := 127) (by kernel_rfl) (by kernel_rfl) hx11 hx11a hx11b) ?_
    refine y_k (.pointer (some ((a_14.add (Int.toNat t9_4 * 6)).add 1)) : Value) w_5 rfl rfl rfl (by kernel_rfl) ?_
    obtain ⟨t20_15, t20_16, t20_17, t20_18, t20_19, hx12, h⟩ := h
    refine y_v (s := Instr.loadAt 87 (.pointer (some ((a_14.add (Int.toNat t9_4 * 6)).add 1)))) rfl rfl rfl (by kernel_rfl) (rn_loadcells (k := 5) ⟨by kernel_rfl, by kernel_rfl⟩ rfl hx12) ?_
    obtain ⟨hx13, h⟩ := h
    replace h := h _ rfl
    refine y_u (s := Instr.storeAt 87 (.pointer (some (⟨w.heap.size, 0, none⟩ : Addr))) (.agg #[.int .i64 t20_15, .int .i64 t20_16, .int .i64 t20_17, .int .i64 t20_18, .int .i64 t20_19] : Value)) rfl rfl (by kernel_rfl) (rn_storecells (k := 5) (cs := [.int .i64 t20_15, .int .i64 t20_16, .int .i64 t20_17, .int .i64 t20_18, .int .i64 t20_19]) (by kernel_rfl) rfl (by simp [Value.oneCell']) hx13) ?_
    generalize setCells w_5 (⟨w.heap.size, 0, none⟩ : Addr) 0 [.int .i64 t20_15, .int .i64 t20_16, .int .i64 t20_17, .int .i64 t20_18, .int .i64 t20_19] = w_20 at h ⊢
    refine y_k (.bool true : Value) w_20 rfl rfl rfl (by kernel_rfl) ?_
    refine y_nil ?_
    refine y_then (hK8 _ _ ?_)
    refine y_ret ?_
    repeat (first | refine e_then_r ?_ | refine e_block_r ?_)
    obtain ⟨r0_21, r0_22, r0_23, r0_24, r0_25, hx14, h⟩ := h
    exact (hQ0 _ _ _ (rs2 rfl (rs_cell (v := (.agg #[.int .i64 r0_21, .int .i64 r0_22, .int .i64 r0_23, .int .i64 r0_24, .int .i64 r0_25] : Value)) (ad := (⟨w.heap.size, 0, none⟩ : Addr)) rfl rfl (rn_loadcells (k := 5) ⟨by kernel_rfl, by kernel_rfl⟩ rfl hx14)) (rs_tmp (v := (.bool true : Value)) rfl rfl)) ⟨_, _, _, _, _, _, rfl, h⟩).1

/-- (*turnkey/turnkeyref15.Book).Limits -/
def F70 (q0_1 : Option Addr) (tenant1_2 : ByteArray) (K : Int → Int → Bool → World → Prop) (w : World) : Prop :=
  Calls Try.prog 68 #[.pointer q0_1, .string tenant1_2] w fun e w_9 => ∃ (t12_3 : Int), ∃ (t12_4 : Int), ∃ (t12_5 : Int), ∃ (t12_6 : Int), ∃ (t12_7 : Int), ∃ (t12_8 : Bool), e = .returned (.tuple #[.agg #[.int .i64 t12_3, .int .i64 t12_4, .int .i64 t12_5, .int .i64 t12_6, .int .i64 t12_7], .bool t12_8] : Value) ∧
  ∀ (w_10 : World), w_10 = w_9.alloc (.cells #[.int .i64 0, .int .i64 0, .int .i64 0, .int .i64 0, .int .i64 0] 87) →
  HasCells w_10 (⟨w_9.heap.size, 0, none⟩ : Addr) 0 5 ∧ ∀ (w_11 : World), w_11 = setCells w_10 (⟨w_9.heap.size, 0, none⟩ : Addr) 0 [.int .i64 t12_3, .int .i64 t12_4, .int .i64 t12_5, .int .i64 t12_6, .int .i64 t12_7] →
  ∃ (t16_12 : Int), w_11.cell? (⟨w_9.heap.size, 0, none⟩ : Addr) = some (.int .i64 t16_12) ∧
  ∃ (t18_13 : Int), w_11.cell? ((⟨w_9.heap.size, 0, none⟩ : Addr).add 1) = some (.int .i64 t18_13) ∧
  ∀ (w_14 : World), (∃ m, w_14 = w_11.drewN m) →
  K t16_12 t18_13 t12_8 w_14
set_option maxHeartbeats 4000000 in
set_option maxRecDepth 20000 in
theorem F70_sound (q0_1 : Option Addr) (tenant1_2 : ByteArray) (K : Int → Int → Bool → World → Prop) (w : World) (h : F70 q0_1 tenant1_2 K w) :
    Calls Try.prog 70 #[.pointer q0_1, .string tenant1_2] w (fun e w1 => ∃ (r0 : Int), ∃ (r1 : Int), ∃ (r2 : Bool), e = .returned (.tuple #[.int .i64 r0, .int .i64 r1, .bool r2]) ∧ K r0 r1 r2 w1) := by
  unfold F70 at h
  refine y_enter (n := 20) (args := [.pointer q0_1, .string tenant1_2]) Try.func70 rfl rfl rfl fun Q0 hQ0 => ?_
  refine y_seq fun K1 hK1 => ?_
  refine y_region ?_
  refine y_k (.int .i64 0 : Value) w rfl rfl rfl (by kernel_rfl) ?_
  refine y_k (.int .i64 0 : Value) w rfl rfl rfl (by kernel_rfl) ?_
  refine y_k (.bool false : Value) w rfl rfl rfl (by kernel_rfl) ?_
  refine y_nil ?_
  refine y_then (hK1 _ _ ?_)
  refine y_seq fun K2 hK2 => ?_
  refine y_region ?_
  refine y_k (.pointer q0_1 : Value) w rfl rfl rfl (by kernel_rfl) ?_
  refine y_k (.string tenant1_2 : Value) w rfl rfl rfl (by kernel_rfl) ?_
  refine y_call rfl rfl rfl (by kernel_rfl) (h.mono ?_)
  rintro _ w_9 ⟨t12_3, t12_4, t12_5, t12_6, t12_7, t12_8, rfl, h⟩
  refine ⟨_, rfl, ?_⟩
  refine y_k (.tuple #[.agg #[.int .i64 t12_3, .int .i64 t12_4, .int .i64 t12_5, .int .i64 t12_6, .int .i64 t12_7], .bool t12_8] : Value) w_9 rfl rfl rfl (by kernel_rfl) ?_
  refine y_k (.agg #[.int .i64 t12_3, .int .i64 t12_4, .int .i64 t12_5, .int .i64 t12_6, .int .i64 t12_7] : Value) w_9 rfl rfl rfl (by kernel_rfl) ?_
  refine y_k (.bool t12_8 : Value) w_9 rfl rfl rfl (by kernel_rfl) ?_
  refine y_k (.pointer (some (⟨w_9.heap.size, 0, none⟩ : Addr)) : Value) (w_9.alloc (.cells #[.int .i64 0, .int .i64 0, .int .i64 0, .int .i64 0, .int .i64 0] 87)) rfl rfl rfl (by kernel_rfl) ?_
  replace h := h _ rfl
  generalize w_9.alloc (.cells #[.int .i64 0, .int .i64 0, .int .i64 0, .int .i64 0, .int .i64 0] 87) = w_10 at h ⊢
  obtain ⟨hx3, h⟩ := h
  replace h := h _ rfl
  refine y_u (s := Instr.storeAt 87 (.pointer (some (⟨w_9.heap.size, 0, none⟩ : Addr))) (.agg #[.int .i64 t12_3, .int .i64 t12_4, .int .i64 t12_5, .int .i64 t12_6, .int .i64 t12_7] : Value)) rfl rfl (by kernel_rfl) (rn_storecells (k := 5) (cs := [.int .i64 t12_3, .int .i64 t12_4, .int .i64 t12_5, .int .i64 t12_6, .int .i64 t12_7]) (by kernel_rfl) rfl (by simp [Value.oneCell']) hx3) ?_
  generalize setCells w_10 (⟨w_9.heap.size, 0, none⟩ : Addr) 0 [.int .i64 t12_3, .int .i64 t12_4, .int .i64 t12_5, .int .i64 t12_6, .int .i64 t12_7] = w_11 at h ⊢
  refine y_k (.bool t12_8 : Value) w_11 rfl rfl rfl (by kernel_rfl) ?_
  refine y_nil ?_
  refine y_then (hK2 _ _ ?_)
  refine y_seq fun K4 hK4 => ?_
  refine q_region (by kernel_rfl) (by kernel_rfl) fun Qq5 hQq5 => ?_
  refine q_k (.pointer (some (⟨w_9.heap.size, 0, none⟩ : Addr)) : Value) rfl rfl rfl (fun _ => by kernel_rfl) ?_
  obtain ⟨t16_12, hx6, h⟩ := h
  refine q_v (v := (.int .i64 t16_12 : Value)) (s := Instr.loadAt 3 (.pointer (some (⟨w_9.heap.size, 0, none⟩ : Addr)))) rfl rfl rfl (by kernel_rfl) (fun _ => rn_load (by kernel_rfl) hx6) ?_
  refine q_k (.pointer (some ((⟨w_9.heap.size, 0, none⟩ : Addr).add 1)) : Value) rfl rfl rfl (fun _ => by kernel_rfl) ?_
  obtain ⟨t18_13, hx7, h⟩ := h
  refine q_v (v := (.int .i64 t18_13 : Value)) (s := Instr.loadAt 3 (.pointer (some ((⟨w_9.heap.size, 0, none⟩ : Addr).add 1)))) rfl rfl rfl (by kernel_rfl) (fun _ => rn_load (by kernel_rfl) hx7) ?_
  refine q_k (.bool t12_8 : Value) rfl rfl rfl (fun _ => by kernel_rfl) ?_
  refine q_k (.int .i64 t16_12 : Value) rfl rfl rfl (fun _ => by kernel_rfl) ?_
  refine q_k (.int .i64 t18_13 : Value) rfl rfl rfl (fun _ => by kernel_rfl) ?_
  refine q_k (.bool t12_8 : Value) rfl rfl rfl (fun _ => by kernel_rfl) ?_
  refine q_nil (hQq5 _ fun m8 => ?_)
  replace h := h _ ⟨m8, rfl⟩
  generalize w_11.drewN m8 = w_14 at h ⊢
  refine y_then (hK4 _ _ ?_)
  refine y_ret ?_
  repeat (first | refine e_then_r ?_ | refine e_block_r ?_)
  exact (hQ0 _ _ _ (res3 (v1 := (.int .i64 t16_12 : Value)) (v2 := (.int .i64 t18_13 : Value)) (v3 := (.bool t12_8 : Value)) rfl rfl rfl rfl rfl) ⟨_, _, _, rfl, h⟩).1

/-- (*turnkey/turnkeyref15.Book).Room -/
def F71 (q0_1 : Option Addr) (tenant1_2 : ByteArray) (window2_3 : Int) (K : Int → Int → World → Prop) (w : World) : Prop :=
  Calls Try.prog 68 #[.pointer q0_1, .string tenant1_2] w fun e w_10 => ∃ (t15_4 : Int), ∃ (t15_5 : Int), ∃ (t15_6 : Int), ∃ (t15_7 : Int), ∃ (t15_8 : Int), ∃ (t15_9 : Bool), e = .returned (.tuple #[.agg #[.int .i64 t15_4, .int .i64 t15_5, .int .i64 t15_6, .int .i64 t15_7, .int .i64 t15_8], .bool t15_9] : Value) ∧
  ∀ (w_11 : World), w_11 = w_10.alloc (.cells #[.int .i64 0, .int .i64 0, .int .i64 0, .int .i64 0, .int .i64 0] 87) →
  HasCells w_11 (⟨w_10.heap.size, 0, none⟩ : Addr) 0 5 ∧ ∀ (w_12 : World), w_12 = setCells w_11 (⟨w_10.heap.size, 0, none⟩ : Addr) 0 [.int .i64 t15_4, .int .i64 t15_5, .int .i64 t15_6, .int .i64 t15_7, .int .i64 t15_8] →
  ((t15_9 = false →
  K 0 0 w_12) ∧
  (t15_9 = true →
  ∃ (t21_13 : Int), ∃ (t21_14 : Int), ∃ (t21_15 : Int), ∃ (t21_16 : Int), ∃ (t21_17 : Int), CellsAt w_12 (⟨w_10.heap.size, 0, none⟩ : Addr) 0 [.int .i64 t21_13, .int .i64 t21_14, .int .i64 t21_15, .int .i64 t21_16, .int .i64 t21_17] ∧
  Calls Try.prog 74 #[.agg #[.int .i64 t21_13, .int .i64 t21_14, .int .i64 t21_15, .int .i64 t21_16, .int .i64 t21_17], .int .i64 window2_3] w_12 fun e w_20 => ∃ (t23_18 : Int), ∃ (t23_19 : Int), e = .returned (.tuple #[.int .i64 t23_18, .int .i64 t23_19] : Value) ∧
  ∃ (t27_21 : Int), w_20.cell? (⟨w_10.heap.size, 0, none⟩ : Addr) = some (.int .i64 t27_21) ∧
  ∃ (t29_22 : Int), w_20.cell? ((⟨w_10.heap.size, 0, none⟩ : Addr).add 2) = some (.int .i64 t29_22) ∧
  ∃ (t32_23 : Int), w_20.cell? ((⟨w_10.heap.size, 0, none⟩ : Addr).add 1) = some (.int .i64 t32_23) ∧
  ∀ (w_24 : World), (∃ m, w_24 = w_20.drewN m) →
  K (IntKind.i64.wrap (t27_21 - t29_22)) (IntKind.i64.wrap (t32_23 - t23_18)) w_24))
set_option maxHeartbeats 4000000 in
set_option maxRecDepth 20000 in
theorem F71_sound (q0_1 : Option Addr) (tenant1_2 : ByteArray) (window2_3 : Int) (K : Int → Int → World → Prop) (w : World) (h : F71 q0_1 tenant1_2 window2_3 K w) :
    Calls Try.prog 71 #[.pointer q0_1, .string tenant1_2, .int .i64 window2_3] w (fun e w1 => ∃ (r0 : Int), ∃ (r1 : Int), e = .returned (.tuple #[.int .i64 r0, .int .i64 r1]) ∧ K r0 r1 w1) := by
  unfold F71 at h
  refine y_enter (n := 35) (args := [.pointer q0_1, .string tenant1_2, .int .i64 window2_3]) Try.func71 rfl rfl rfl fun Q0 hQ0 => ?_
  refine y_seq fun K1 hK1 => ?_
  refine y_region ?_
  refine y_k (.int .i64 0 : Value) w rfl rfl rfl (by kernel_rfl) ?_
  refine y_k (.int .i64 0 : Value) w rfl rfl rfl (by kernel_rfl) ?_
  refine y_nil ?_
  refine y_then (hK1 _ _ ?_)
  refine y_seq fun K2 hK2 => ?_
  refine y_region ?_
  refine y_k (.pointer q0_1 : Value) w rfl rfl rfl (by kernel_rfl) ?_
  refine y_k (.string tenant1_2 : Value) w rfl rfl rfl (by kernel_rfl) ?_
  refine y_call rfl rfl rfl (by kernel_rfl) (h.mono ?_)
  rintro _ w_10 ⟨t15_4, t15_5, t15_6, t15_7, t15_8, t15_9, rfl, h⟩
  refine ⟨_, rfl, ?_⟩
  refine y_k (.tuple #[.agg #[.int .i64 t15_4, .int .i64 t15_5, .int .i64 t15_6, .int .i64 t15_7, .int .i64 t15_8], .bool t15_9] : Value) w_10 rfl rfl rfl (by kernel_rfl) ?_
  refine y_k (.agg #[.int .i64 t15_4, .int .i64 t15_5, .int .i64 t15_6, .int .i64 t15_7, .int .i64 t15_8] : Value) w_10 rfl rfl rfl (by kernel_rfl) ?_
  refine y_k (.bool t15_9 : Value) w_10 rfl rfl rfl (by kernel_rfl) ?_
  refine y_k (.pointer (some (⟨w_10.heap.size, 0, none⟩ : Addr)) : Value) (w_10.alloc (.cells #[.int .i64 0, .int .i64 0, .int .i64 0, .int .i64 0, .int .i64 0] 87)) rfl rfl rfl (by kernel_rfl) ?_
  replace h := h _ rfl
  generalize w_10.alloc (.cells #[.int .i64 0, .int .i64 0, .int .i64 0, .int .i64 0, .int .i64 0] 87) = w_11 at h ⊢
  obtain ⟨hx3, h⟩ := h
  replace h := h _ rfl
  refine y_u (s := Instr.storeAt 87 (.pointer (some (⟨w_10.heap.size, 0, none⟩ : Addr))) (.agg #[.int .i64 t15_4, .int .i64 t15_5, .int .i64 t15_6, .int .i64 t15_7, .int .i64 t15_8] : Value)) rfl rfl (by kernel_rfl) (rn_storecells (k := 5) (cs := [.int .i64 t15_4, .int .i64 t15_5, .int .i64 t15_6, .int .i64 t15_7, .int .i64 t15_8]) (by kernel_rfl) rfl (by simp [Value.oneCell']) hx3) ?_
  generalize setCells w_11 (⟨w_10.heap.size, 0, none⟩ : Addr) 0 [.int .i64 t15_4, .int .i64 t15_5, .int .i64 t15_6, .int .i64 t15_7, .int .i64 t15_8] = w_12 at h ⊢
  refine y_k (.bool t15_9 : Value) w_12 rfl rfl rfl (by kernel_rfl) ?_
  refine y_nil ?_
  refine y_then (hK2 _ _ ?_)
  refine y_seq fun K4 hK4 => ?_
  refine y_seq fun K5 hK5 => ?_
  refine y_region ?_
  refine y_k (.bool t15_9 : Value) w_12 rfl rfl rfl (by kernel_rfl) ?_
  refine y_k (.bool (!(t15_9)) : Value) w_12 rfl rfl rfl (by kernel_rfl) ?_
  refine y_nil ?_
  refine y_then (hK5 _ _ ?_)
  refine y_cond (!(t15_9)) rfl rfl (fun hb15 => ?_) (fun hb15 => ?_)
  · replace h := h.1 ((not_true_of hb15))
    refine y_seq fun K6 hK6 => ?_
    refine y_region ?_
    refine y_k (.int .i64 0 : Value) w_12 rfl rfl rfl (by kernel_rfl) ?_
    refine y_k (.int .i64 0 : Value) w_12 rfl rfl rfl (by kernel_rfl) ?_
    refine y_nil ?_
    refine y_then (hK6 _ _ ?_)
    refine y_ret ?_
    repeat (first | refine e_then_r ?_ | refine e_block_r ?_)
    exact (hQ0 _ _ _ (res2 (v1 := (.int .i64 0 : Value)) (v2 := (.int .i64 0 : Value)) rfl rfl rfl rfl) ⟨_, _, rfl, h⟩).1
  · replace h := h.2 ((not_false_of hb15))
    refine y_skip ?_
    refine y_then (hK4 _ _ ?_)
    refine y_seq fun K7 hK7 => ?_
    refine y_region ?_
    obtain ⟨t21_13, t21_14, t21_15, t21_16, t21_17, hx8, h⟩ := h
    refine y_v (s := Instr.loadAt 87 (.pointer (some (⟨w_10.heap.size, 0, none⟩ : Addr)))) rfl rfl rfl (by kernel_rfl) (rn_loadcells (k := 5) ⟨by kernel_rfl, by kernel_rfl⟩ rfl hx8) ?_
    refine y_k (.int .i64 window2_3 : Value) w_12 rfl rfl rfl (by kernel_rfl) ?_
    refine y_call rfl rfl rfl (by kernel_rfl) (h.mono ?_)
    rintro _ w_20 ⟨t23_18, t23_19, rfl, h⟩
    refine ⟨_, rfl, ?_⟩
    refine y_k (.tuple #[.int .i64 t23_18, .int .i64 t23_19] : Value) w_20 rfl rfl rfl (by kernel_rfl) ?_
    refine y_k (.int .i64 t23_18 : Value) w_20 rfl rfl rfl (by kernel_rfl) ?_
    refine y_k (.int .i64 t23_19 : Value) w_20 rfl rfl rfl (by kernel_rfl) ?_
    refine y_k (.int .i64 t23_18 : Value) w_20 rfl rfl rfl (by kernel_rfl) ?_
    refine y_k (.int .i64 t23_19 : Value) w_20 rfl rfl rfl (by kernel_rfl) ?_
    refine y_nil ?_
    refine y_then (hK7 _ _ ?_)
    refine y_seq fun K9 hK9 => ?_
    refine q_region (by kernel_rfl) (by kernel_rfl) fun Qq10 hQq10 => ?_
    refine q_k (.pointer (some (⟨w_10.heap.size, 0, none⟩ : Addr)) : Value) rfl rfl rfl (fun _ => by kernel_rfl) ?_
    obtain ⟨t27_21, hx11, h⟩ := h
    refine q_v (v := (.int .i64 t27_21 : Value)) (s := Instr.loadAt 3 (.pointer (some (⟨w_10.heap.size, 0, none⟩ : Addr)))) rfl rfl rfl (by kernel_rfl) (fun _ => rn_load (by kernel_rfl) hx11) ?_
    refine q_k (.pointer (some ((⟨w_10.heap.size, 0, none⟩ : Addr).add 2)) : Value) rfl rfl rfl (fun _ => by kernel_rfl) ?_
    obtain ⟨t29_22, hx12, h⟩ := h
    refine q_v (v := (.int .i64 t29_22 : Value)) (s := Instr.loadAt 3 (.pointer (some ((⟨w_10.heap.size, 0, none⟩ : Addr).add 2)))) rfl rfl rfl (by kernel_rfl) (fun _ => rn_load (by kernel_rfl) hx12) ?_
    refine q_k (.int .i64 (IntKind.i64.wrap (t27_21 - t29_22)) : Value) rfl rfl rfl (fun _ => by kernel_rfl) ?_
    refine q_k (.pointer (some ((⟨w_10.heap.size, 0, none⟩ : Addr).add 1)) : Value) rfl rfl rfl (fun _ => by kernel_rfl) ?_
    obtain ⟨t32_23, hx13, h⟩ := h
    refine q_v (v := (.int .i64 t32_23 : Value)) (s := Instr.loadAt 3 (.pointer (some ((⟨w_10.heap.size, 0, none⟩ : Addr).add 1)))) rfl rfl rfl (by kernel_rfl) (fun _ => rn_load (by kernel_rfl) hx13) ?_
    refine q_k (.int .i64 t23_18 : Value) rfl rfl rfl (fun _ => by kernel_rfl) ?_
    refine q_k (.int .i64 (IntKind.i64.wrap (t32_23 - t23_18)) : Value) rfl rfl rfl (fun _ => by kernel_rfl) ?_
    refine q_k (.int .i64 (IntKind.i64.wrap (t27_21 - t29_22)) : Value) rfl rfl rfl (fun _ => by kernel_rfl) ?_
    refine q_k (.int .i64 (IntKind.i64.wrap (t32_23 - t23_18)) : Value) rfl rfl rfl (fun _ => by kernel_rfl) ?_
    refine q_nil (hQq10 _ fun m14 => ?_)
    replace h := h _ ⟨m14, rfl⟩
    generalize w_20.drewN m14 = w_24 at h ⊢
    refine y_then (hK9 _ _ ?_)
    refine y_ret ?_
    repeat (first | refine e_then_r ?_ | refine e_block_r ?_)
    exact (hQ0 _ _ _ (res2 (v1 := (.int .i64 (IntKind.i64.wrap (t27_21 - t29_22)) : Value)) (v2 := (.int .i64 (IntKind.i64.wrap (t32_23 - t23_18)) : Value)) rfl rfl rfl rfl) ⟨_, _, rfl, h⟩).1

end Go.Proofs.Ythhcaaellhdkiaa
