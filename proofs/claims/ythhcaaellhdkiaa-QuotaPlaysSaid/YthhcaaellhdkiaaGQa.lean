/- Printed by gen.py (own program, wip/): for each Go function a predicate transformer and its soundness. -/
import Derived.Test.YthhcaaellhdkiaaProg
import Derived.Test.YthhcaaellhdkiaaST
namespace Go.Proofs.Ythhcaaellhdkiaa
open Go Go.RowKit Go.Proofs.Ythhcaaellhdkiaa.SX
set_option linter.unusedVariables false

def F57_j1 (K : Int → Int → Int → Int → Int → World → Prop) (w : World) (w_7 : World) (w_12 : World) : Prop :=
  ∃ (t12_13 : Int), ∃ (t12_14 : Int), ∃ (t12_15 : Int), ∃ (t12_16 : Int), ∃ (t12_17 : Int), CellsAt w_12 (⟨w.heap.size, 0, none⟩ : Addr) 0 [.int .i64 t12_13, .int .i64 t12_14, .int .i64 t12_15, .int .i64 t12_16, .int .i64 t12_17] ∧
  HasCells w_12 (⟨w_7.heap.size, 0, none⟩ : Addr) 0 5 ∧ ∀ (w_18 : World), w_18 = setCells w_12 (⟨w_7.heap.size, 0, none⟩ : Addr) 0 [.int .i64 t12_13, .int .i64 t12_14, .int .i64 t12_15, .int .i64 t12_16, .int .i64 t12_17] →
  ∃ (r0_19 : Int), ∃ (r0_20 : Int), ∃ (r0_21 : Int), ∃ (r0_22 : Int), ∃ (r0_23 : Int), CellsAt w_18 (⟨w_7.heap.size, 0, none⟩ : Addr) 0 [.int .i64 r0_19, .int .i64 r0_20, .int .i64 r0_21, .int .i64 r0_22, .int .i64 r0_23] ∧
  K r0_19 r0_20 r0_21 r0_22 r0_23 w_18
/-- turnkey/quota.at -/
def F57 (a0_1 : Int) (a0_2 : Int) (a0_3 : Int) (a0_4 : Int) (a0_5 : Int) (window1_6 : Int) (K : Int → Int → Int → Int → Int → World → Prop) (w : World) : Prop :=
  ∀ (w_7 : World), w_7 = w.alloc (.cells #[.int .i64 a0_1, .int .i64 a0_2, .int .i64 a0_3, .int .i64 a0_4, .int .i64 a0_5] 87) →
  ∀ (w_8 : World), w_8 = w_7.alloc (.cells #[.int .i64 0, .int .i64 0, .int .i64 0, .int .i64 0, .int .i64 0] 87) →
  ∃ (t7_9 : Int), w_8.cell? ((⟨w.heap.size, 0, none⟩ : Addr).add 4) = some (.int .i64 t7_9) ∧
  ((window1_6 > t7_9 →
  HasCell w_8 ((⟨w.heap.size, 0, none⟩ : Addr).add 4) ∧ ∀ (w_10 : World), w_10 = w_8.setCell ((⟨w.heap.size, 0, none⟩ : Addr).add 4) (.int .i64 window1_6 : Value) →
  HasCell w_10 ((⟨w.heap.size, 0, none⟩ : Addr).add 3) ∧ ∀ (w_11 : World), w_11 = w_10.setCell ((⟨w.heap.size, 0, none⟩ : Addr).add 3) (.int .i64 0 : Value) →
  F57_j1 K w w_7 w_11) ∧
  (¬ (window1_6 > t7_9) →
  F57_j1 K w w_7 w_8))
set_option maxHeartbeats 4000000 in
set_option maxRecDepth 20000 in
theorem F57_sound (a0_1 : Int) (a0_2 : Int) (a0_3 : Int) (a0_4 : Int) (a0_5 : Int) (window1_6 : Int) (K : Int → Int → Int → Int → Int → World → Prop) (w : World) (h : F57 a0_1 a0_2 a0_3 a0_4 a0_5 window1_6 K w) :
    Calls Try.prog 57 #[.agg #[.int .i64 a0_1, .int .i64 a0_2, .int .i64 a0_3, .int .i64 a0_4, .int .i64 a0_5], .int .i64 window1_6] w (fun e w1 => ∃ (r0 : Int), ∃ (r1 : Int), ∃ (r2 : Int), ∃ (r3 : Int), ∃ (r4 : Int), e = .returned (.agg #[.int .i64 r0, .int .i64 r1, .int .i64 r2, .int .i64 r3, .int .i64 r4] : Value) ∧ K r0 r1 r2 r3 r4 w1) := by
  unfold F57 at h
  refine y_enter (n := 13) (args := [.agg #[.int .i64 a0_1, .int .i64 a0_2, .int .i64 a0_3, .int .i64 a0_4, .int .i64 a0_5], .int .i64 window1_6]) Try.func57 rfl rfl rfl fun Q0 hQ0 => ?_
  refine y_seq fun K1 hK1 => ?_
  refine y_region ?_
  refine y_k (.pointer (some (⟨w.heap.size, 0, none⟩ : Addr)) : Value) (w.alloc (.cells #[.int .i64 a0_1, .int .i64 a0_2, .int .i64 a0_3, .int .i64 a0_4, .int .i64 a0_5] 87)) rfl rfl rfl (by kernel_rfl) ?_
  replace h := h _ rfl
  generalize w.alloc (.cells #[.int .i64 a0_1, .int .i64 a0_2, .int .i64 a0_3, .int .i64 a0_4, .int .i64 a0_5] 87) = w_7 at h ⊢
  refine y_k (.pointer (some (⟨w_7.heap.size, 0, none⟩ : Addr)) : Value) (w_7.alloc (.cells #[.int .i64 0, .int .i64 0, .int .i64 0, .int .i64 0, .int .i64 0] 87)) rfl rfl rfl (by kernel_rfl) ?_
  replace h := h _ rfl
  generalize w_7.alloc (.cells #[.int .i64 0, .int .i64 0, .int .i64 0, .int .i64 0, .int .i64 0] 87) = w_8 at h ⊢
  refine y_nil ?_
  refine y_then (hK1 _ _ ?_)
  refine y_seq fun K2 hK2 => ?_
  have hjK2 : ∀ (f : Fr) (w_12 : World), f 2 = (.pointer (some (⟨w.heap.size, 0, none⟩ : Addr)) : Value) → f 4 = (.pointer (some (⟨w_7.heap.size, 0, none⟩ : Addr)) : Value) → F57_j1 K w w_7 w_12 → WK K2 13 f w_12 := by
    intro f  w_12 e2 e4 h
    refine y_atf (upd_id (upd_id rfl e2) e4) ?_
    clear e2 e4
    unfold F57_j1 at h
    refine hK2 _ _ ?_
    refine y_seq fun K7 hK7 => ?_
    refine y_region ?_
    obtain ⟨t12_13, t12_14, t12_15, t12_16, t12_17, hx8, h⟩ := h
    refine y_v (s := Instr.loadAt 87 (.pointer (some (⟨w.heap.size, 0, none⟩ : Addr)))) rfl rfl rfl (by kernel_rfl) (rn_loadcells (k := 5) ⟨by kernel_rfl, by kernel_rfl⟩ rfl hx8) ?_
    obtain ⟨hx9, h⟩ := h
    replace h := h _ rfl
    refine y_u (s := Instr.storeAt 87 (.pointer (some (⟨w_7.heap.size, 0, none⟩ : Addr))) (.agg #[.int .i64 t12_13, .int .i64 t12_14, .int .i64 t12_15, .int .i64 t12_16, .int .i64 t12_17] : Value)) rfl rfl (by kernel_rfl) (rn_storecells (k := 5) (cs := [.int .i64 t12_13, .int .i64 t12_14, .int .i64 t12_15, .int .i64 t12_16, .int .i64 t12_17]) (by kernel_rfl) rfl (by simp [Value.oneCell']) hx9) ?_
    generalize setCells w_12 (⟨w_7.heap.size, 0, none⟩ : Addr) 0 [.int .i64 t12_13, .int .i64 t12_14, .int .i64 t12_15, .int .i64 t12_16, .int .i64 t12_17] = w_18 at h ⊢
    refine y_nil ?_
    refine y_then (hK7 _ _ ?_)
    refine y_ret ?_
    repeat (first | refine e_then_r ?_ | refine e_block_r ?_)
    obtain ⟨r0_19, r0_20, r0_21, r0_22, r0_23, hx10, h⟩ := h
    exact (hQ0 _ _ _ (rs1 rfl (rs_cell (v := (.agg #[.int .i64 r0_19, .int .i64 r0_20, .int .i64 r0_21, .int .i64 r0_22, .int .i64 r0_23] : Value)) (ad := (⟨w_7.heap.size, 0, none⟩ : Addr)) rfl rfl (rn_loadcells (k := 5) ⟨by kernel_rfl, by kernel_rfl⟩ rfl hx10))) ⟨_, _, _, _, _, rfl, h⟩).1
  refine y_seq fun K3 hK3 => ?_
  refine y_region ?_
  refine y_k (.int .i64 window1_6 : Value) w_8 rfl rfl rfl (by kernel_rfl) ?_
  refine y_k (.pointer (some ((⟨w.heap.size, 0, none⟩ : Addr).add 4)) : Value) w_8 rfl rfl rfl (by kernel_rfl) ?_
  obtain ⟨t7_9, hx4, h⟩ := h
  refine y_v (s := Instr.loadAt 2 (.pointer (some ((⟨w.heap.size, 0, none⟩ : Addr).add 4)))) rfl rfl rfl (by kernel_rfl) (rn_load (by kernel_rfl) hx4) ?_
  refine y_k (.bool (decide (window1_6 > t7_9)) : Value) w_8 rfl rfl rfl (by kernel_rfl) ?_
  refine y_nil ?_
  refine y_then (hK3 _ _ ?_)
  refine y_cond (decide (window1_6 > t7_9)) rfl rfl (fun hb11 => ?_) (fun hb11 => ?_)
  · replace h := h.1 (of_decide_eq_true hb11)
    refine y_region ?_
    refine y_k (.int .i64 window1_6 : Value) w_8 rfl rfl rfl (by kernel_rfl) ?_
    refine y_k (.pointer (some ((⟨w.heap.size, 0, none⟩ : Addr).add 4)) : Value) w_8 rfl rfl rfl (by kernel_rfl) ?_
    obtain ⟨hx5, h⟩ := h
    replace h := h _ rfl
    refine y_u (s := Instr.storeAt 2 (.pointer (some ((⟨w.heap.size, 0, none⟩ : Addr).add 4))) (.int .i64 window1_6 : Value)) rfl rfl (by kernel_rfl) (rn_store1 (by kernel_rfl) rfl hx5) ?_
    generalize w_8.setCell ((⟨w.heap.size, 0, none⟩ : Addr).add 4) (.int .i64 window1_6 : Value) = w_10 at h ⊢
    refine y_k (.pointer (some ((⟨w.heap.size, 0, none⟩ : Addr).add 3)) : Value) w_10 rfl rfl rfl (by kernel_rfl) ?_
    obtain ⟨hx6, h⟩ := h
    replace h := h _ rfl
    refine y_u (s := Instr.storeAt 3 (.pointer (some ((⟨w.heap.size, 0, none⟩ : Addr).add 3))) (.int .i64 0 : Value)) rfl rfl (by kernel_rfl) (rn_store1 (by kernel_rfl) rfl hx6) ?_
    generalize w_10.setCell ((⟨w.heap.size, 0, none⟩ : Addr).add 3) (.int .i64 0 : Value) = w_11 at h ⊢
    refine y_nil ?_
    exact y_then (hjK2 _ w_11 rfl rfl h)
  · replace h := h.2 (of_decide_eq_false hb11)
    refine y_skip ?_
    exact y_then (hjK2 _ w_8 rfl rfl h)

def F63_j1 (K : Bool → World → Prop) (t2_2 : Bool) (w_3 : World) : Prop :=
  K t2_2 w_3
/-- turnkey/quota.limit -/
def F63 (n0_1 : Int) (K : Bool → World → Prop) (w : World) : Prop :=
  ((n0_1 ≥ 1 →
  F63_j1 K (decide (n0_1 ≤ 1000000)) w) ∧
  (¬ (n0_1 ≥ 1) →
  F63_j1 K false w))
set_option maxHeartbeats 4000000 in
set_option maxRecDepth 20000 in
theorem F63_sound (n0_1 : Int) (K : Bool → World → Prop) (w : World) (h : F63 n0_1 K w) :
    Calls Try.prog 63 #[.int .i64 n0_1] w (fun e w1 => ∃ (r0 : Bool), e = .returned (.bool r0 : Value) ∧ K r0 w1) := by
  unfold F63 at h
  refine y_enter (n := 9) (args := [.int .i64 n0_1]) Try.func63 rfl rfl rfl fun Q0 hQ0 => ?_
  refine y_seq fun K1 hK1 => ?_
  refine y_region ?_
  refine y_k (.bool false : Value) w rfl rfl rfl (by kernel_rfl) ?_
  refine y_nil ?_
  refine y_then (hK1 _ _ ?_)
  refine y_seq fun K2 hK2 => ?_
  have hjK2 : ∀ (f : Fr) (t2_2 : Bool) (w_3 : World), f 2 = (.bool t2_2 : Value) → F63_j1 K t2_2 w_3 → WK K2 9 f w_3 := by
    intro f t2_2 w_3 e2 h
    refine y_atf (upd_id rfl e2) ?_
    clear e2
    unfold F63_j1 at h
    refine hK2 _ _ ?_
    refine y_ret ?_
    repeat (first | refine e_then_r ?_ | refine e_block_r ?_)
    exact (hQ0 _ _ _ (res1 (v := (.bool t2_2 : Value)) rfl rfl rfl) ⟨_, rfl, h⟩).1
  refine y_region ?_
  refine y_k (.int .i64 n0_1 : Value) w rfl rfl rfl (by kernel_rfl) ?_
  refine y_k (.bool (decide (n0_1 ≥ 1)) : Value) w rfl rfl rfl (by kernel_rfl) ?_
  refine y_k (.bool (decide (n0_1 ≥ 1)) : Value) w rfl rfl rfl (by kernel_rfl) ?_
  refine y_fork (decide (n0_1 ≥ 1)) (fun hb3 => ?_) (fun hb3 => ?_)
  · replace h := h.1 (of_decide_eq_true hb3)
    refine y_frame (upd_id (i := 5) (v := .bool true) rfl (congrArg Value.bool hb3)) ?_
    refine y_gyes rfl rfl rfl ?_
    refine y_k (.int .i64 n0_1 : Value) w rfl rfl rfl (by kernel_rfl) ?_
    refine y_gyes rfl rfl rfl ?_
    refine y_k (.bool (decide (n0_1 ≤ 1000000)) : Value) w rfl rfl rfl (by kernel_rfl) ?_
    refine y_k (.bool (decide (n0_1 ≤ 1000000)) : Value) w rfl rfl rfl (by kernel_rfl) ?_
    refine y_k (.bool (decide (n0_1 ≤ 1000000)) : Value) w rfl rfl rfl (by kernel_rfl) ?_
    refine y_nil ?_
    exact y_then (hjK2 _ (decide (n0_1 ≤ 1000000)) w rfl h)
  · replace h := h.2 (of_decide_eq_false hb3)
    refine y_frame (upd_id (i := 5) (v := .bool false) rfl (congrArg Value.bool hb3)) ?_
    refine y_gno rfl rfl rfl rfl ?_
    refine y_gno rfl rfl rfl rfl ?_
    refine y_k (.bool false : Value) w rfl rfl rfl (by kernel_rfl) ?_
    refine y_k (.bool false : Value) w rfl rfl rfl (by kernel_rfl) ?_
    refine y_nil ?_
    exact y_then (hjK2 _ false w rfl h)

/-- turnkey/quota.New -/
def F28  (K : Option Addr → World → Prop) (w : World) : Prop :=
  ∀ (w_1 : World), w_1 = w.alloc (.map #[] 0) →
  ∀ (w_2 : World), w_2 = w_1.alloc (.cells #[.map (some w.heap.size)] 107) →
  K (some (⟨w_1.heap.size, 0, none⟩ : Addr)) w_2
set_option maxHeartbeats 4000000 in
set_option maxRecDepth 20000 in
theorem F28_sound  (K : Option Addr → World → Prop) (w : World) (h : F28  K w) :
    Calls Try.prog 28 #[] w (fun e w1 => ∃ (r0 : Option Addr), e = .returned (.pointer r0 : Value) ∧ K r0 w1) := by
  unfold F28 at h
  refine y_enter (n := 4) (args := []) Try.func28 rfl rfl rfl fun Q0 hQ0 => ?_
  refine y_seq fun K1 hK1 => ?_
  refine y_region ?_
  refine y_k (.pointer none : Value) w rfl rfl rfl (by kernel_rfl) ?_
  refine y_nil ?_
  refine y_then (hK1 _ _ ?_)
  refine y_seq fun K2 hK2 => ?_
  refine y_region ?_
  refine y_k (.map (some w.heap.size) : Value) (w.alloc (.map #[] 0)) rfl rfl rfl (by kernel_rfl) ?_
  replace h := h _ rfl
  generalize w.alloc (.map #[] 0) = w_1 at h ⊢
  refine y_k (.agg #[.map (some w.heap.size)] : Value) w_1 rfl rfl rfl (by kernel_rfl) ?_
  refine y_k (.pointer (some (⟨w_1.heap.size, 0, none⟩ : Addr)) : Value) (w_1.alloc (.cells #[.map (some w.heap.size)] 107)) rfl rfl rfl (by kernel_rfl) ?_
  replace h := h _ rfl
  generalize w_1.alloc (.cells #[.map (some w.heap.size)] 107) = w_2 at h ⊢
  refine y_k (.pointer (some (⟨w_1.heap.size, 0, none⟩ : Addr)) : Value) w_2 rfl rfl rfl (by kernel_rfl) ?_
  refine y_nil ?_
  refine y_then (hK2 _ _ ?_)
  refine y_ret ?_
  repeat (first | refine e_then_r ?_ | refine e_block_r ?_)
  exact (hQ0 _ _ _ (res1 (v := (.pointer (some (⟨w_1.heap.size, 0, none⟩ : Addr)) : Value)) rfl rfl rfl) ⟨_, rfl, h⟩).1

/-- (*turnkey/quota.Book).Put -/
def F48 (q0_1 : Option Addr) (tenant1_2 : ByteArray) (a2_3 : Int) (a2_4 : Int) (a2_5 : Int) (a2_6 : Int) (a2_7 : Int) (K : Int → World → Prop) (w : World) : Prop :=
  ∀ (w_8 : World), w_8 = w.alloc (.cells #[.int .i64 a2_3, .int .i64 a2_4, .int .i64 a2_5, .int .i64 a2_6, .int .i64 a2_7] 87) →
  ∃ (t9_9 : Int), w_8.cell? (⟨w.heap.size, 0, none⟩ : Addr) = some (.int .i64 t9_9) ∧
  Calls Try.prog 63 #[.int .i64 t9_9] w_8 fun e w_11 => ∃ (t10_10 : Bool), e = .returned (.bool t10_10 : Value) ∧
  ((t10_10 = false →
  K 152 w_11) ∧
  (t10_10 = true →
  ∃ (t14_12 : Int), w_11.cell? ((⟨w.heap.size, 0, none⟩ : Addr).add 1) = some (.int .i64 t14_12) ∧
  Calls Try.prog 63 #[.int .i64 t14_12] w_11 fun e w_14 => ∃ (t15_13 : Bool), e = .returned (.bool t15_13 : Value) ∧
  ((t15_13 = false →
  K 152 w_14) ∧
  (t15_13 = true →
  ∃ (t20_15 : Int), w_14.cell? ((⟨w.heap.size, 0, none⟩ : Addr).add 2) = some (.int .i64 t20_15) ∧
  ((t20_15 < 0 →
  K 1 w_14) ∧
  (¬ (t20_15 < 0) →
  ∃ (t24_16 : Int), w_14.cell? ((⟨w.heap.size, 0, none⟩ : Addr).add 2) = some (.int .i64 t24_16) ∧
  ∃ (t26_17 : Int), w_14.cell? (⟨w.heap.size, 0, none⟩ : Addr) = some (.int .i64 t26_17) ∧
  ((t24_16 > t26_17 →
  K 1 w_14) ∧
  (¬ (t24_16 > t26_17) →
  ∃ (t31_18 : Int), w_14.cell? ((⟨w.heap.size, 0, none⟩ : Addr).add 3) = some (.int .i64 t31_18) ∧
  ((t31_18 < 0 →
  K 1 w_14) ∧
  (¬ (t31_18 < 0) →
  ∃ (t36_19 : Int), w_14.cell? ((⟨w.heap.size, 0, none⟩ : Addr).add 3) = some (.int .i64 t36_19) ∧
  ∃ (t38_20 : Int), w_14.cell? ((⟨w.heap.size, 0, none⟩ : Addr).add 1) = some (.int .i64 t38_20) ∧
  ((t36_19 > t38_20 →
  K 1 w_14) ∧
  (¬ (t36_19 > t38_20) →
  ∃ (t43_21 : Int), w_14.cell? ((⟨w.heap.size, 0, none⟩ : Addr).add 4) = some (.int .i64 t43_21) ∧
  ((t43_21 < 0 →
  K 1 w_14) ∧
  (¬ (t43_21 < 0) →
  ∃ (a_22 : Addr), q0_1 = some a_22 ∧
  ∃ (t50_23 : Option Nat), w_14.cell? a_22 = some (.map t50_23) ∧
  ∃ (t52_24 : Int), ∃ (t52_25 : Int), ∃ (t52_26 : Int), ∃ (t52_27 : Int), ∃ (t52_28 : Int), (Instr.lookup 105 (.map t50_23 : Value) (.string tenant1_2 : Value) false).run Try.prog w_14 = .ok (.agg #[.int .i64 t52_24, .int .i64 t52_25, .int .i64 t52_26, .int .i64 t52_27, .int .i64 t52_28] : Value) w_14 ∧
  ∃ (t54_29 : Bool), (do eqGuard .neq 87 (Operand.tmp 52) (Operand.tmp 53) (.agg #[.int .i64 t52_24, .int .i64 t52_25, .int .i64 t52_26, .int .i64 t52_27, .int .i64 t52_28] : Value) (.agg #[.int .i64 0, .int .i64 0, .int .i64 0, .int .i64 0, .int .i64 0] : Value); binOp .neq 87 (.agg #[.int .i64 t52_24, .int .i64 t52_25, .int .i64 t52_26, .int .i64 t52_27, .int .i64 t52_28] : Value) (.agg #[.int .i64 0, .int .i64 0, .int .i64 0, .int .i64 0, .int .i64 0] : Value)).run Try.prog w_14 = .ok (.bool t54_29 : Value) w_14 ∧
  ((t54_29 = true →
  K 163 w_14) ∧
  (t54_29 = false →
  ∀ (w_30 : World), w_30 = w_14.drew →
  ∃ (a_31 : Addr), q0_1 = some a_31 ∧
  ∃ (t58_32 : Option Nat), w_30.cell? a_31 = some (.map t58_32) ∧
  ∃ (t60_33 : Int), ∃ (t60_34 : Int), ∃ (t60_35 : Int), ∃ (t60_36 : Int), ∃ (t60_37 : Int), CellsAt w_30 (⟨w.heap.size, 0, none⟩ : Addr) 0 [.int .i64 t60_33, .int .i64 t60_34, .int .i64 t60_35, .int .i64 t60_36, .int .i64 t60_37] ∧
  ∃ (w_38 : World), (Instr.mapUpdate 105 (.map t58_32 : Value) (.string tenant1_2 : Value) (.agg #[.int .i64 t60_33, .int .i64 t60_34, .int .i64 t60_35, .int .i64 t60_36, .int .i64 t60_37] : Value)).run Try.prog w_30 = .ok () w_38 ∧ 
  K 0 w_38))))))))))))))))
set_option maxHeartbeats 4000000 in
set_option maxRecDepth 20000 in
theorem F48_sound (q0_1 : Option Addr) (tenant1_2 : ByteArray) (a2_3 : Int) (a2_4 : Int) (a2_5 : Int) (a2_6 : Int) (a2_7 : Int) (K : Int → World → Prop) (w : World) (h : F48 q0_1 tenant1_2 a2_3 a2_4 a2_5 a2_6 a2_7 K w) :
    Calls Try.prog 48 #[.pointer q0_1, .string tenant1_2, .agg #[.int .i64 a2_3, .int .i64 a2_4, .int .i64 a2_5, .int .i64 a2_6, .int .i64 a2_7]] w (fun e w1 => ∃ (r0 : Int), e = .returned (.int .i64 r0 : Value) ∧ K r0 w1) := by
  unfold F48 at h
  refine y_enter (n := 61) (args := [.pointer q0_1, .string tenant1_2, .agg #[.int .i64 a2_3, .int .i64 a2_4, .int .i64 a2_5, .int .i64 a2_6, .int .i64 a2_7]]) Try.func48 rfl rfl rfl fun Q0 hQ0 => ?_
  refine y_seq fun K1 hK1 => ?_
  refine y_region ?_
  refine y_k (.pointer (some (⟨w.heap.size, 0, none⟩ : Addr)) : Value) (w.alloc (.cells #[.int .i64 a2_3, .int .i64 a2_4, .int .i64 a2_5, .int .i64 a2_6, .int .i64 a2_7] 87)) rfl rfl rfl (by kernel_rfl) ?_
  replace h := h _ rfl
  generalize w.alloc (.cells #[.int .i64 a2_3, .int .i64 a2_4, .int .i64 a2_5, .int .i64 a2_6, .int .i64 a2_7] 87) = w_8 at h ⊢
  refine y_k (.int .i64 0 : Value) w_8 rfl rfl rfl (by kernel_rfl) ?_
  refine y_nil ?_
  refine y_then (hK1 _ _ ?_)
  refine y_seq fun K2 hK2 => ?_
  refine y_block ?_
  refine y_seq fun K4 hK4 => ?_
  refine y_region ?_
  refine y_k (.pointer (some (⟨w.heap.size, 0, none⟩ : Addr)) : Value) w_8 rfl rfl rfl (by kernel_rfl) ?_
  obtain ⟨t9_9, hx5, h⟩ := h
  refine y_v (s := Instr.loadAt 3 (.pointer (some (⟨w.heap.size, 0, none⟩ : Addr)))) rfl rfl rfl (by kernel_rfl) (rn_load (by kernel_rfl) hx5) ?_
  refine y_call rfl rfl rfl (by kernel_rfl) (h.mono ?_)
  rintro _ w_11 ⟨t10_10, rfl, h⟩
  refine ⟨_, rfl, ?_⟩
  refine y_k (.bool (!(t10_10)) : Value) w_11 rfl rfl rfl (by kernel_rfl) ?_
  refine y_k (.bool (!(t10_10)) : Value) w_11 rfl rfl rfl (by kernel_rfl) ?_
  refine y_fork (!(t10_10)) (fun hb6 => ?_) (fun hb6 => ?_)
  · replace h := h.1 ((not_true_of hb6))
    refine y_frame (upd_id (i := 12) (v := .bool true) rfl (congrArg Value.bool hb6)) ?_
    refine y_gno rfl rfl rfl rfl ?_
    refine y_gno rfl rfl rfl rfl ?_
    refine y_gno rfl rfl rfl rfl ?_
    refine y_gno rfl rfl rfl rfl ?_
    refine y_k (.bool true : Value) w_11 rfl rfl rfl (by kernel_rfl) ?_
    refine y_k (.bool true : Value) w_11 rfl rfl rfl (by kernel_rfl) ?_
    refine y_nil ?_
    refine y_then (hK4 _ _ ?_)
    refine y_cond_t rfl rfl ?_
    refine y_seq fun K7 hK7 => ?_
    refine y_region ?_
    refine y_k (.int .i64 152 : Value) w_11 rfl rfl rfl (by kernel_rfl) ?_
    refine y_nil ?_
    refine y_then (hK7 _ _ ?_)
    refine y_ret ?_
    repeat (first | refine e_then_r ?_ | refine e_block_r ?_)
    exact (hQ0 _ _ _ (res1 (v := (.int .i64 152 : Value)) rfl rfl rfl) ⟨_, rfl, h⟩).1
  · replace h := h.2 ((not_false_of hb6))
    refine y_frame (upd_id (i := 12) (v := .bool false) rfl (congrArg Value.bool hb6)) ?_
    refine y_gyes rfl rfl rfl ?_
    refine y_k (.pointer (some ((⟨w.heap.size, 0, none⟩ : Addr).add 1)) : Value) w_11 rfl rfl rfl (by kernel_rfl) ?_
    refine y_gyes rfl rfl rfl ?_
    obtain ⟨t14_12, hx8, h⟩ := h
    refine y_v (s := Instr.loadAt 3 (.pointer (some ((⟨w.heap.size, 0, none⟩ : Addr).add 1)))) rfl rfl rfl (by kernel_rfl) (rn_load (by kernel_rfl) hx8) ?_
    refine y_gyes rfl rfl rfl ?_
    refine y_call rfl rfl rfl (by kernel_rfl) (h.mono ?_)
    rintro _ w_14 ⟨t15_13, rfl, h⟩
    refine ⟨_, rfl, ?_⟩
    refine y_gyes rfl rfl rfl ?_
    refine y_k (.bool (!(t15_13)) : Value) w_14 rfl rfl rfl (by kernel_rfl) ?_
    refine y_k (.bool (!(t15_13)) : Value) w_14 rfl rfl rfl (by kernel_rfl) ?_
    refine y_k (.bool (!(t15_13)) : Value) w_14 rfl rfl rfl (by kernel_rfl) ?_
    refine y_nil ?_
    refine y_then (hK4 _ _ ?_)
    refine y_cond (!(t15_13)) rfl rfl (fun hb42 => ?_) (fun hb42 => ?_)
    · replace h := h.1 ((not_true_of hb42))
      refine y_seq fun K9 hK9 => ?_
      refine y_region ?_
      refine y_k (.int .i64 152 : Value) w_14 rfl rfl rfl (by kernel_rfl) ?_
      refine y_nil ?_
      refine y_then (hK9 _ _ ?_)
      refine y_ret ?_
      repeat (first | refine e_then_r ?_ | refine e_block_r ?_)
      exact (hQ0 _ _ _ (res1 (v := (.int .i64 152 : Value)) rfl rfl rfl) ⟨_, rfl, h⟩).1
    · replace h := h.2 ((not_false_of hb42))
      refine y_seq fun K10 hK10 => ?_
      refine y_region ?_
      refine y_k (.pointer (some ((⟨w.heap.size, 0, none⟩ : Addr).add 2)) : Value) w_14 rfl rfl rfl (by kernel_rfl) ?_
      obtain ⟨t20_15, hx11, h⟩ := h
      refine y_v (s := Instr.loadAt 3 (.pointer (some ((⟨w.heap.size, 0, none⟩ : Addr).add 2)))) rfl rfl rfl (by kernel_rfl) (rn_load (by kernel_rfl) hx11) ?_
      refine y_k (.bool (decide (t20_15 < 0)) : Value) w_14 rfl rfl rfl (by kernel_rfl) ?_
      refine y_k (.bool (decide (t20_15 < 0)) : Value) w_14 rfl rfl rfl (by kernel_rfl) ?_
      refine y_fork (decide (t20_15 < 0)) (fun hb12 => ?_) (fun hb12 => ?_)
      · replace h := h.1 (of_decide_eq_true hb12)
        refine y_frame (upd_id (i := 22) (v := .bool true) rfl (congrArg Value.bool hb12)) ?_
        refine y_gno rfl rfl rfl rfl ?_
        refine y_gno rfl rfl rfl rfl ?_
        refine y_gno rfl rfl rfl rfl ?_
        refine y_gno rfl rfl rfl rfl ?_
        refine y_gno rfl rfl rfl rfl ?_
        refine y_k (.bool true : Value) w_14 rfl rfl rfl (by kernel_rfl) ?_
        refine y_k (.bool true : Value) w_14 rfl rfl rfl (by kernel_rfl) ?_
        refine y_gno rfl rfl rfl rfl ?_
        refine y_gno rfl rfl rfl rfl ?_
        refine y_gno rfl rfl rfl rfl ?_
        refine y_k (.bool true : Value) w_14 rfl rfl rfl (by kernel_rfl) ?_
        refine y_k (.bool true : Value) w_14 rfl rfl rfl (by kernel_rfl) ?_
        refine y_gno rfl rfl rfl rfl ?_
        refine y_gno rfl rfl rfl rfl ?_
        refine y_gno rfl rfl rfl rfl ?_
        refine y_gno rfl rfl rfl rfl ?_
        refine y_gno rfl rfl rfl rfl ?_
        refine y_k (.bool true : Value) w_14 rfl rfl rfl (by kernel_rfl) ?_
        refine y_k (.bool true : Value) w_14 rfl rfl rfl (by kernel_rfl) ?_
        refine y_gno rfl rfl rfl rfl ?_
        refine y_gno rfl rfl rfl rfl ?_
        refine y_gno rfl rfl rfl rfl ?_
        refine y_k (.bool true : Value) w_14 rfl rfl rfl (by kernel_rfl) ?_
        refine y_k (.bool true : Value) w_14 rfl rfl rfl (by kernel_rfl) ?_
        refine y_nil ?_
        refine y_then (hK10 _ _ ?_)
        refine y_cond_t rfl rfl ?_
        refine y_seq fun K13 hK13 => ?_
        refine y_region ?_
        refine y_k (.int .i64 1 : Value) w_14 rfl rfl rfl (by kernel_rfl) ?_
        refine y_nil ?_
        refine y_then (hK13 _ _ ?_)
        refine y_ret ?_
        repeat (first | refine e_then_r ?_ | refine e_block_r ?_)
        exact (hQ0 _ _ _ (res1 (v := (.int .i64 1 : Value)) rfl rfl rfl) ⟨_, rfl, h⟩).1
      · replace h := h.2 (of_decide_eq_false hb12)
        refine y_frame (upd_id (i := 22) (v := .bool false) rfl (congrArg Value.bool hb12)) ?_
        refine y_gyes rfl rfl rfl ?_
        refine y_k (.pointer (some ((⟨w.heap.size, 0, none⟩ : Addr).add 2)) : Value) w_14 rfl rfl rfl (by kernel_rfl) ?_
        refine y_gyes rfl rfl rfl ?_
        obtain ⟨t24_16, hx14, h⟩ := h
        refine y_v (s := Instr.loadAt 3 (.pointer (some ((⟨w.heap.size, 0, none⟩ : Addr).add 2)))) rfl rfl rfl (by kernel_rfl) (rn_load (by kernel_rfl) hx14) ?_
        refine y_gyes rfl rfl rfl ?_
        refine y_k (.pointer (some (⟨w.heap.size, 0, none⟩ : Addr)) : Value) w_14 rfl rfl rfl (by kernel_rfl) ?_
        refine y_gyes rfl rfl rfl ?_
        obtain ⟨t26_17, hx15, h⟩ := h
        refine y_v (s := Instr.loadAt 3 (.pointer (some (⟨w.heap.size, 0, none⟩ : Addr)))) rfl rfl rfl (by kernel_rfl) (rn_load (by kernel_rfl) hx15) ?_
        refine y_gyes rfl rfl rfl ?_
        refine y_k (.bool (decide (t24_16 > t26_17)) : Value) w_14 rfl rfl rfl (by kernel_rfl) ?_
        refine y_k (.bool (decide (t24_16 > t26_17)) : Value) w_14 rfl rfl rfl (by kernel_rfl) ?_
        refine y_k (.bool (decide (t24_16 > t26_17)) : Value) w_14 rfl rfl rfl (by kernel_rfl) ?_
        refine y_fork (decide (t24_16 > t26_17)) (fun hb16 => ?_) (fun hb16 => ?_)
        · replace h := h.1 (of_decide_eq_true hb16)
          refine y_frame (upd_id (i := 29) (v := .bool true) rfl (congrArg Value.bool hb16)) ?_
          refine y_gno rfl rfl rfl rfl ?_
          refine y_gno rfl rfl rfl rfl ?_
          refine y_gno rfl rfl rfl rfl ?_
          refine y_k (.bool true : Value) w_14 rfl rfl rfl (by kernel_rfl) ?_
          refine y_k (.bool true : Value) w_14 rfl rfl rfl (by kernel_rfl) ?_
          refine y_gno rfl rfl rfl rfl ?_
          refine y_gno rfl rfl rfl rfl ?_
          refine y_gno rfl rfl rfl rfl ?_
          refine y_gno rfl rfl rfl rfl ?_
          refine y_gno rfl rfl rfl rfl ?_
          refine y_k (.bool true : Value) w_14 rfl rfl rfl (by kernel_rfl) ?_
          refine y_k (.bool true : Value) w_14 rfl rfl rfl (by kernel_rfl) ?_
          refine y_gno rfl rfl rfl rfl ?_
          refine y_gno rfl rfl rfl rfl ?_
          refine y_gno rfl rfl rfl rfl ?_
          refine y_k (.bool true : Value) w_14 rfl rfl rfl (by kernel_rfl) ?_
          refine y_k (.bool true : Value) w_14 rfl rfl rfl (by kernel_rfl) ?_
          refine y_nil ?_
          refine y_then (hK10 _ _ ?_)
          refine y_cond_t rfl rfl ?_
          refine y_seq fun K17 hK17 => ?_
          refine y_region ?_
          refine y_k (.int .i64 1 : Value) w_14 rfl rfl rfl (by kernel_rfl) ?_
          refine y_nil ?_
          refine y_then (hK17 _ _ ?_)
          refine y_ret ?_
          repeat (first | refine e_then_r ?_ | refine e_block_r ?_)
          exact (hQ0 _ _ _ (res1 (v := (.int .i64 1 : Value)) rfl rfl rfl) ⟨_, rfl, h⟩).1
        · replace h := h.2 (of_decide_eq_false hb16)
          refine y_frame (upd_id (i := 29) (v := .bool false) rfl (congrArg Value.bool hb16)) ?_
          refine y_gyes rfl rfl rfl ?_
          refine y_k (.pointer (some ((⟨w.heap.size, 0, none⟩ : Addr).add 3)) : Value) w_14 rfl rfl rfl (by kernel_rfl) ?_
          refine y_gyes rfl rfl rfl ?_
          obtain ⟨t31_18, hx18, h⟩ := h
          refine y_v (s := Instr.loadAt 3 (.pointer (some ((⟨w.heap.size, 0, none⟩ : Addr).add 3)))) rfl rfl rfl (by kernel_rfl) (rn_load (by kernel_rfl) hx18) ?_
          refine y_gyes rfl rfl rfl ?_
          refine y_k (.bool (decide (t31_18 < 0)) : Value) w_14 rfl rfl rfl (by kernel_rfl) ?_
          refine y_k (.bool (decide (t31_18 < 0)) : Value) w_14 rfl rfl rfl (by kernel_rfl) ?_
          refine y_k (.bool (decide (t31_18 < 0)) : Value) w_14 rfl rfl rfl (by kernel_rfl) ?_
          refine y_fork (decide (t31_18 < 0)) (fun hb19 => ?_) (fun hb19 => ?_)
          · replace h := h.1 (of_decide_eq_true hb19)
            refine y_frame (upd_id (i := 34) (v := .bool true) rfl (congrArg Value.bool hb19)) ?_
            refine y_gno rfl rfl rfl rfl ?_
            refine y_gno rfl rfl rfl rfl ?_
            refine y_gno rfl rfl rfl rfl ?_
            refine y_gno rfl rfl rfl rfl ?_
            refine y_gno rfl rfl rfl rfl ?_
            refine y_k (.bool true : Value) w_14 rfl rfl rfl (by kernel_rfl) ?_
            refine y_k (.bool true : Value) w_14 rfl rfl rfl (by kernel_rfl) ?_
            refine y_gno rfl rfl rfl rfl ?_
            refine y_gno rfl rfl rfl rfl ?_
            refine y_gno rfl rfl rfl rfl ?_
            refine y_k (.bool true : Value) w_14 rfl rfl rfl (by kernel_rfl) ?_
            refine y_k (.bool true : Value) w_14 rfl rfl rfl (by kernel_rfl) ?_
            refine y_nil ?_
            refine y_then (hK10 _ _ ?_)
            refine y_cond_t rfl rfl ?_
            refine y_seq fun K20 hK20 => ?_
            refine y_region ?_
            refine y_k (.int .i64 1 : Value) w_14 rfl rfl rfl (by kernel_rfl) ?_
            refine y_nil ?_
            refine y_then (hK20 _ _ ?_)
            refine y_ret ?_
            repeat (first | refine e_then_r ?_ | refine e_block_r ?_)
            exact (hQ0 _ _ _ (res1 (v := (.int .i64 1 : Value)) rfl rfl rfl) ⟨_, rfl, h⟩).1
          · replace h := h.2 (of_decide_eq_false hb19)
            refine y_frame (upd_id (i := 34) (v := .bool false) rfl (congrArg Value.bool hb19)) ?_
            refine y_gyes rfl rfl rfl ?_
            refine y_k (.pointer (some ((⟨w.heap.size, 0, none⟩ : Addr).add 3)) : Value) w_14 rfl rfl rfl (by kernel_rfl) ?_
            refine y_gyes rfl rfl rfl ?_
            obtain ⟨t36_19, hx21, h⟩ := h
            refine y_v (s := Instr.loadAt 3 (.pointer (some ((⟨w.heap.size, 0, none⟩ : Addr).add 3)))) rfl rfl rfl (by kernel_rfl) (rn_load (by kernel_rfl) hx21) ?_
            refine y_gyes rfl rfl rfl ?_
            refine y_k (.pointer (some ((⟨w.heap.size, 0, none⟩ : Addr).add 1)) : Value) w_14 rfl rfl rfl (by kernel_rfl) ?_
            refine y_gyes rfl rfl rfl ?_
            obtain ⟨t38_20, hx22, h⟩ := h
            refine y_v (s := Instr.loadAt 3 (.pointer (some ((⟨w.heap.size, 0, none⟩ : Addr).add 1)))) rfl rfl rfl (by kernel_rfl) (rn_load (by kernel_rfl) hx22) ?_
            refine y_gyes rfl rfl rfl ?_
            refine y_k (.bool (decide (t36_19 > t38_20)) : Value) w_14 rfl rfl rfl (by kernel_rfl) ?_
            refine y_k (.bool (decide (t36_19 > t38_20)) : Value) w_14 rfl rfl rfl (by kernel_rfl) ?_
            refine y_k (.bool (decide (t36_19 > t38_20)) : Value) w_14 rfl rfl rfl (by kernel_rfl) ?_
            refine y_fork (decide (t36_19 > t38_20)) (fun hb23 => ?_) (fun hb23 => ?_)
            · replace h := h.1 (of_decide_eq_true hb23)
              refine y_frame (upd_id (i := 41) (v := .bool true) rfl (congrArg Value.bool hb23)) ?_
              refine y_gno rfl rfl rfl rfl ?_
              refine y_gno rfl rfl rfl rfl ?_
              refine y_gno rfl rfl rfl rfl ?_
              refine y_k (.bool true : Value) w_14 rfl rfl rfl (by kernel_rfl) ?_
              refine y_k (.bool true : Value) w_14 rfl rfl rfl (by kernel_rfl) ?_
              refine y_nil ?_
              refine y_then (hK10 _ _ ?_)
              refine y_cond_t rfl rfl ?_
              refine y_seq fun K24 hK24 => ?_
              refine y_region ?_
              refine y_k (.int .i64 1 : Value) w_14 rfl rfl rfl (by kernel_rfl) ?_
              refine y_nil ?_
              refine y_then (hK24 _ _ ?_)
              refine y_ret ?_
              repeat (first | refine e_then_r ?_ | refine e_block_r ?_)
              exact (hQ0 _ _ _ (res1 (v := (.int .i64 1 : Value)) rfl rfl rfl) ⟨_, rfl, h⟩).1
            · replace h := h.2 (of_decide_eq_false hb23)
              refine y_frame (upd_id (i := 41) (v := .bool false) rfl (congrArg Value.bool hb23)) ?_
              refine y_gyes rfl rfl rfl ?_
              refine y_k (.pointer (some ((⟨w.heap.size, 0, none⟩ : Addr).add 4)) : Value) w_14 rfl rfl rfl (by kernel_rfl) ?_
              refine y_gyes rfl rfl rfl ?_
              obtain ⟨t43_21, hx25, h⟩ := h
              refine y_v (s := Instr.loadAt 2 (.pointer (some ((⟨w.heap.size, 0, none⟩ : Addr).add 4)))) rfl rfl rfl (by kernel_rfl) (rn_load (by kernel_rfl) hx25) ?_
              refine y_gyes rfl rfl rfl ?_
              refine y_k (.bool (decide (t43_21 < 0)) : Value) w_14 rfl rfl rfl (by kernel_rfl) ?_
              refine y_k (.bool (decide (t43_21 < 0)) : Value) w_14 rfl rfl rfl (by kernel_rfl) ?_
              refine y_k (.bool (decide (t43_21 < 0)) : Value) w_14 rfl rfl rfl (by kernel_rfl) ?_
              refine y_nil ?_
              refine y_then (hK10 _ _ ?_)
              refine y_cond (decide (t43_21 < 0)) rfl rfl (fun hb41 => ?_) (fun hb41 => ?_)
              · replace h := h.1 (of_decide_eq_true hb41)
                refine y_seq fun K26 hK26 => ?_
                refine y_region ?_
                refine y_k (.int .i64 1 : Value) w_14 rfl rfl rfl (by kernel_rfl) ?_
                refine y_nil ?_
                refine y_then (hK26 _ _ ?_)
                refine y_ret ?_
                repeat (first | refine e_then_r ?_ | refine e_block_r ?_)
                exact (hQ0 _ _ _ (res1 (v := (.int .i64 1 : Value)) rfl rfl rfl) ⟨_, rfl, h⟩).1
              · replace h := h.2 (of_decide_eq_false hb41)
                refine y_seq fun K27 hK27 => ?_
                refine y_region ?_
                refine y_k (.pointer q0_1 : Value) w_14 rfl rfl rfl (by kernel_rfl) ?_
                obtain ⟨a_22, hx28, h⟩ := h
                refine y_k (.pointer (some a_22) : Value) w_14 rfl rfl rfl (run_nilCheck hx28 rfl) ?_
                refine y_k (.pointer (some a_22) : Value) w_14 rfl rfl rfl (by kernel_rfl) ?_
                obtain ⟨t50_23, hx29, h⟩ := h
                refine y_v (s := Instr.loadAt 105 (.pointer (some a_22))) rfl rfl rfl (by kernel_rfl) (rn_load (by kernel_rfl) hx29) ?_
                refine y_k (.string tenant1_2 : Value) w_14 rfl rfl rfl (by kernel_rfl) ?_
                obtain ⟨t52_24, t52_25, t52_26, t52_27, t52_28, hx30, h⟩ := h
                refine y_v (s := Instr.lookup 105 (.map t50_23 : Value) (.string tenant1_2 : Value) false) rfl rfl rfl (by kernel_rfl) (hx30) ?_
                refine y_k (.agg #[.int .i64 0, .int .i64 0, .int .i64 0, .int .i64 0, .int .i64 0] : Value) w_14 rfl rfl rfl (by kernel_rfl) ?_
                obtain ⟨t54_29, hx31, h⟩ := h
                refine y_v (s := do eqGuard .neq 87 (Operand.tmp 52) (Operand.tmp 53) (.agg #[.int .i64 t52_24, .int .i64 t52_25, .int .i64 t52_26, .int .i64 t52_27, .int .i64 t52_28] : Value) (.agg #[.int .i64 0, .int .i64 0, .int .i64 0, .int .i64 0, .int .i64 0] : Value); binOp .neq 87 (.agg #[.int .i64 t52_24, .int .i64 t52_25, .int .i64 t52_26, .int .i64 t52_27, .int .i64 t52_28] : Value) (.agg #[.int .i64 0, .int .i64 0, .int .i64 0, .int .i64 0, .int .i64 0] : Value)) rfl rfl rfl (by kernel_rfl) (hx31) ?_
                refine y_k (.bool t54_29 : Value) w_14 rfl rfl rfl (by kernel_rfl) ?_
                refine y_nil ?_
                refine y_then (hK27 _ _ ?_)
                refine y_cond (t54_29) rfl rfl (fun hb40 => ?_) (fun hb40 => ?_)
                · replace h := h.1 (hb40)
                  refine y_seq fun K32 hK32 => ?_
                  refine y_region ?_
                  refine y_k (.int .i64 163 : Value) w_14 rfl rfl rfl (by kernel_rfl) ?_
                  refine y_nil ?_
                  refine y_then (hK32 _ _ ?_)
                  refine y_ret ?_
                  repeat (first | refine e_then_r ?_ | refine e_block_r ?_)
                  exact (hQ0 _ _ _ (res1 (v := (.int .i64 163 : Value)) rfl rfl rfl) ⟨_, rfl, h⟩).1
                · replace h := h.2 (hb40)
                  refine y_skip ?_
                  refine e_block_n ?_
                  refine y_then (hK2 _ _ ?_)
                  refine y_seq fun K33 hK33 => ?_
                  obtain ⟨w_30, hwd34⟩ : ∃ wd : World, wd = w_14.drew := ⟨_, rfl⟩
                  replace h := h _ hwd34
                  refine t_region (wd := w_30) [] (by kernel_rfl) hwd34 SF_nil fun Q34 hE34 hp34 hS => ?_
                  clear hwd34
                  refine t_kw hp34 hS 0 (.pointer q0_1 : Value) rfl (wanted_none rfl) rfl rfl (by kernel_rfl) (fun _ _ => by kernel_rfl) fun hS => ?_
                  obtain ⟨a_31, hx35, h⟩ := h
                  refine t_kw hp34 hS 1 (.pointer (some a_31) : Value) rfl (wanted_none rfl) rfl rfl (by kernel_rfl) (fun _ _ => run_nilCheck hx35 rfl) fun hS => ?_
                  refine t_kw hp34 hS 2 (.pointer (some a_31) : Value) rfl (wanted_none rfl) rfl rfl (by kernel_rfl) (fun _ _ => by kernel_rfl) fun hS => ?_
                  obtain ⟨t58_32, hx36, h⟩ := h
                  refine t_add ⟨3, [6], fun wx => wx.cell? a_31 = some (.map t58_32)⟩ ?_
                  replace hS := SF_on (x := ⟨3, [6], fun wx => wx.cell? a_31 = some (.map t58_32)⟩) hx36 hS
                  refine t_v (s := Instr.loadAt 105 (.pointer (some a_31))) hp34 hS 3 (.map t58_32 : Value) rfl (wanted_none rfl) rfl rfl (by kernel_rfl) (by kernel_rfl) (fun _ hw => rn_load (by kernel_rfl) (Sw.fact (List.Mem.head _) rfl hw)) fun hS => ?_
                  refine t_kw hp34 hS 4 (.string tenant1_2 : Value) rfl (wanted_none rfl) rfl rfl (by kernel_rfl) (fun _ _ => by kernel_rfl) fun hS => ?_
                  obtain ⟨t60_33, t60_34, t60_35, t60_36, t60_37, hx37, h⟩ := h
                  refine t_add ⟨5, [6], fun wx => CellsAt wx (⟨w.heap.size, 0, none⟩ : Addr) 0 [.int .i64 t60_33, .int .i64 t60_34, .int .i64 t60_35, .int .i64 t60_36, .int .i64 t60_37]⟩ ?_
                  replace hS := SF_on (x := ⟨5, [6], fun wx => CellsAt wx (⟨w.heap.size, 0, none⟩ : Addr) 0 [.int .i64 t60_33, .int .i64 t60_34, .int .i64 t60_35, .int .i64 t60_36, .int .i64 t60_37]⟩) hx37 hS
                  refine t_v (s := Instr.loadAt 87 (.pointer (some (⟨w.heap.size, 0, none⟩ : Addr)))) hp34 hS 5 (.agg #[.int .i64 t60_33, .int .i64 t60_34, .int .i64 t60_35, .int .i64 t60_36, .int .i64 t60_37] : Value) rfl (wanted_none rfl) rfl rfl (by kernel_rfl) (by kernel_rfl) (fun _ hw => rn_loadcells (k := 5) ⟨by kernel_rfl, by kernel_rfl⟩ rfl (Sw.fact (List.Mem.head _) rfl hw)) fun hS => ?_
                  obtain ⟨w_38, hx38, h⟩ := h
                  refine t_u 6 (s := Instr.mapUpdate 105 (.map t58_32 : Value) (.string tenant1_2 : Value) (.agg #[.int .i64 t60_33, .int .i64 t60_34, .int .i64 t60_35, .int .i64 t60_36, .int .i64 t60_37] : Value)) (by kernel_rfl) rfl (wanted_none rfl) rfl (by kernel_rfl) hx38 (SF_off (by kernel_rfl) (by kernel_rfl) (SF_off (by kernel_rfl) (by kernel_rfl) SF_nil)) fun hS => ?_
                  refine t_done (by kernel_rfl) (hE34 _ _ ?_)
                  refine y_then (hK33 _ _ ?_)
                  refine y_seq fun K39 hK39 => ?_
                  refine y_region ?_
                  refine y_k (.int .i64 0 : Value) w_38 rfl rfl rfl (by kernel_rfl) ?_
                  refine y_nil ?_
                  refine y_then (hK39 _ _ ?_)
                  refine y_ret ?_
                  repeat (first | refine e_then_r ?_ | refine e_block_r ?_)
                  exact (hQ0 _ _ _ (res1 (v := (.int .i64 0 : Value)) rfl rfl rfl) ⟨_, rfl, h⟩).1

/-- (*turnkey/quota.Book).Set -/
def F29 (q0_1 : Option Addr) (tenant1_2 : ByteArray) (series2_3 : Int) (samples3_4 : Int) (K : Int → World → Prop) (w : World) : Prop :=
  Calls Try.prog 48 #[.pointer q0_1, .string tenant1_2, .agg #[.int .i64 series2_3, .int .i64 samples3_4, .int .i64 0, .int .i64 0, .int .i64 0]] w fun e w_6 => ∃ (t14_5 : Int), e = .returned (.int .i64 t14_5 : Value) ∧
  K t14_5 w_6
set_option maxHeartbeats 4000000 in
set_option maxRecDepth 20000 in
theorem F29_sound (q0_1 : Option Addr) (tenant1_2 : ByteArray) (series2_3 : Int) (samples3_4 : Int) (K : Int → World → Prop) (w : World) (h : F29 q0_1 tenant1_2 series2_3 samples3_4 K w) :
    Calls Try.prog 29 #[.pointer q0_1, .string tenant1_2, .int .i64 series2_3, .int .i64 samples3_4] w (fun e w1 => ∃ (r0 : Int), e = .returned (.int .i64 r0 : Value) ∧ K r0 w1) := by
  unfold F29 at h
  refine y_enter (n := 15) (args := [.pointer q0_1, .string tenant1_2, .int .i64 series2_3, .int .i64 samples3_4]) Try.func29 rfl rfl rfl fun Q0 hQ0 => ?_
  refine y_seq fun K1 hK1 => ?_
  refine y_region ?_
  refine y_k (.int .i64 0 : Value) w rfl rfl rfl (by kernel_rfl) ?_
  refine y_nil ?_
  refine y_then (hK1 _ _ ?_)
  refine y_seq fun K2 hK2 => ?_
  refine y_region ?_
  refine y_k (.pointer q0_1 : Value) w rfl rfl rfl (by kernel_rfl) ?_
  refine y_k (.string tenant1_2 : Value) w rfl rfl rfl (by kernel_rfl) ?_
  refine y_k (.int .i64 series2_3 : Value) w rfl rfl rfl (by kernel_rfl) ?_
  refine y_k (.int .i64 samples3_4 : Value) w rfl rfl rfl (by kernel_rfl) ?_
  refine y_k (.agg #[.int .i64 series2_3, .int .i64 samples3_4, .int .i64 0, .int .i64 0, .int .i64 0] : Value) w rfl rfl rfl (by kernel_rfl) ?_
  refine y_call rfl rfl rfl (by kernel_rfl) (h.mono ?_)
  rintro _ w_6 ⟨t14_5, rfl, h⟩
  refine ⟨_, rfl, ?_⟩
  refine y_k (.int .i64 t14_5 : Value) w_6 rfl rfl rfl (by kernel_rfl) ?_
  refine y_nil ?_
  refine y_then (hK2 _ _ ?_)
  refine y_ret ?_
  repeat (first | refine e_then_r ?_ | refine e_block_r ?_)
  exact (hQ0 _ _ _ (res1 (v := (.int .i64 t14_5 : Value)) rfl rfl rfl) ⟨_, rfl, h⟩).1

/-- (*turnkey/quota.Book).Room -/
def F30 (q0_1 : Option Addr) (tenant1_2 : ByteArray) (window2_3 : Int) (K : Int → Int → World → Prop) (w : World) : Prop :=
  ∃ (a_4 : Addr), q0_1 = some a_4 ∧
  ∃ (t12_5 : Option Nat), w.cell? a_4 = some (.map t12_5) ∧
  ∃ (t14_6 : Int), ∃ (t14_7 : Int), ∃ (t14_8 : Int), ∃ (t14_9 : Int), ∃ (t14_10 : Int), (Instr.lookup 105 (.map t12_5 : Value) (.string tenant1_2 : Value) false).run Try.prog w = .ok (.agg #[.int .i64 t14_6, .int .i64 t14_7, .int .i64 t14_8, .int .i64 t14_9, .int .i64 t14_10] : Value) w ∧
  Calls Try.prog 57 #[.agg #[.int .i64 t14_6, .int .i64 t14_7, .int .i64 t14_8, .int .i64 t14_9, .int .i64 t14_10], .int .i64 window2_3] w fun e w_16 => ∃ (t16_11 : Int), ∃ (t16_12 : Int), ∃ (t16_13 : Int), ∃ (t16_14 : Int), ∃ (t16_15 : Int), e = .returned (.agg #[.int .i64 t16_11, .int .i64 t16_12, .int .i64 t16_13, .int .i64 t16_14, .int .i64 t16_15] : Value) ∧
  ∀ (w_17 : World), w_17 = w_16.alloc (.cells #[.int .i64 0, .int .i64 0, .int .i64 0, .int .i64 0, .int .i64 0] 87) →
  HasCells w_17 (⟨w_16.heap.size, 0, none⟩ : Addr) 0 5 ∧ ∀ (w_18 : World), w_18 = setCells w_17 (⟨w_16.heap.size, 0, none⟩ : Addr) 0 [.int .i64 t16_11, .int .i64 t16_12, .int .i64 t16_13, .int .i64 t16_14, .int .i64 t16_15] →
  ∃ (t18_19 : Int), w_18.cell? (⟨w_16.heap.size, 0, none⟩ : Addr) = some (.int .i64 t18_19) ∧
  ∃ (t20_20 : Int), w_18.cell? ((⟨w_16.heap.size, 0, none⟩ : Addr).add 2) = some (.int .i64 t20_20) ∧
  ∃ (t23_21 : Int), w_18.cell? ((⟨w_16.heap.size, 0, none⟩ : Addr).add 1) = some (.int .i64 t23_21) ∧
  ∃ (t25_22 : Int), w_18.cell? ((⟨w_16.heap.size, 0, none⟩ : Addr).add 3) = some (.int .i64 t25_22) ∧
  ∀ (w_23 : World), (∃ m, w_23 = w_18.drewN m) →
  K (IntKind.i64.wrap (t18_19 - t20_20)) (IntKind.i64.wrap (t23_21 - t25_22)) w_23
set_option maxHeartbeats 4000000 in
set_option maxRecDepth 20000 in
theorem F30_sound (q0_1 : Option Addr) (tenant1_2 : ByteArray) (window2_3 : Int) (K : Int → Int → World → Prop) (w : World) (h : F30 q0_1 tenant1_2 window2_3 K w) :
    Calls Try.prog 30 #[.pointer q0_1, .string tenant1_2, .int .i64 window2_3] w (fun e w1 => ∃ (r0 : Int), ∃ (r1 : Int), e = .returned (.tuple #[.int .i64 r0, .int .i64 r1]) ∧ K r0 r1 w1) := by
  unfold F30 at h
  refine y_enter (n := 27) (args := [.pointer q0_1, .string tenant1_2, .int .i64 window2_3]) Try.func30 rfl rfl rfl fun Q0 hQ0 => ?_
  refine y_seq fun K1 hK1 => ?_
  refine y_region ?_
  refine y_k (.int .i64 0 : Value) w rfl rfl rfl (by kernel_rfl) ?_
  refine y_k (.int .i64 0 : Value) w rfl rfl rfl (by kernel_rfl) ?_
  refine y_nil ?_
  refine y_then (hK1 _ _ ?_)
  refine y_seq fun K2 hK2 => ?_
  refine y_region ?_
  refine y_k (.pointer q0_1 : Value) w rfl rfl rfl (by kernel_rfl) ?_
  obtain ⟨a_4, hx3, h⟩ := h
  refine y_k (.pointer (some a_4) : Value) w rfl rfl rfl (run_nilCheck hx3 rfl) ?_
  refine y_k (.pointer (some a_4) : Value) w rfl rfl rfl (by kernel_rfl) ?_
  obtain ⟨t12_5, hx4, h⟩ := h
  refine y_v (s := Instr.loadAt 105 (.pointer (some a_4))) rfl rfl rfl (by kernel_rfl) (rn_load (by kernel_rfl) hx4) ?_
  refine y_k (.string tenant1_2 : Value) w rfl rfl rfl (by kernel_rfl) ?_
  obtain ⟨t14_6, t14_7, t14_8, t14_9, t14_10, hx5, h⟩ := h
  refine y_v (s := Instr.lookup 105 (.map t12_5 : Value) (.string tenant1_2 : Value) false) rfl rfl rfl (by kernel_rfl) (hx5) ?_
  refine y_k (.int .i64 window2_3 : Value) w rfl rfl rfl (by kernel_rfl) ?_
  refine y_call rfl rfl rfl (by kernel_rfl) (h.mono ?_)
  rintro _ w_16 ⟨t16_11, t16_12, t16_13, t16_14, t16_15, rfl, h⟩
  refine ⟨_, rfl, ?_⟩
  refine y_k (.pointer (some (⟨w_16.heap.size, 0, none⟩ : Addr)) : Value) (w_16.alloc (.cells #[.int .i64 0, .int .i64 0, .int .i64 0, .int .i64 0, .int .i64 0] 87)) rfl rfl rfl (by kernel_rfl) ?_
  replace h := h _ rfl
  generalize w_16.alloc (.cells #[.int .i64 0, .int .i64 0, .int .i64 0, .int .i64 0, .int .i64 0] 87) = w_17 at h ⊢
  obtain ⟨hx6, h⟩ := h
  replace h := h _ rfl
  refine y_u (s := Instr.storeAt 87 (.pointer (some (⟨w_16.heap.size, 0, none⟩ : Addr))) (.agg #[.int .i64 t16_11, .int .i64 t16_12, .int .i64 t16_13, .int .i64 t16_14, .int .i64 t16_15] : Value)) rfl rfl (by kernel_rfl) (rn_storecells (k := 5) (cs := [.int .i64 t16_11, .int .i64 t16_12, .int .i64 t16_13, .int .i64 t16_14, .int .i64 t16_15]) (by kernel_rfl) rfl (by simp [Value.oneCell']) hx6) ?_
  generalize setCells w_17 (⟨w_16.heap.size, 0, none⟩ : Addr) 0 [.int .i64 t16_11, .int .i64 t16_12, .int .i64 t16_13, .int .i64 t16_14, .int .i64 t16_15] = w_18 at h ⊢
  refine y_nil ?_
  refine y_then (hK2 _ _ ?_)
  refine y_seq fun K7 hK7 => ?_
  refine q_region (by kernel_rfl) (by kernel_rfl) fun Qq8 hQq8 => ?_
  refine q_k (.pointer (some (⟨w_16.heap.size, 0, none⟩ : Addr)) : Value) rfl rfl rfl (fun _ => by kernel_rfl) ?_
  obtain ⟨t18_19, hx9, h⟩ := h
  refine q_v (v := (.int .i64 t18_19 : Value)) (s := Instr.loadAt 3 (.pointer (some (⟨w_16.heap.size, 0, none⟩ : Addr)))) rfl rfl rfl (by kernel_rfl) (fun _ => rn_load (by kernel_rfl) hx9) ?_
  refine q_k (.pointer (some ((⟨w_16.heap.size, 0, none⟩ : Addr).add 2)) : Value) rfl rfl rfl (fun _ => by kernel_rfl) ?_
  obtain ⟨t20_20, hx10, h⟩ := h
  refine q_v (v := (.int .i64 t20_20 : Value)) (s := Instr.loadAt 3 (.pointer (some ((⟨w_16.heap.size, 0, none⟩ : Addr).add 2)))) rfl rfl rfl (by kernel_rfl) (fun _ => rn_load (by kernel_rfl) hx10) ?_
  refine q_k (.int .i64 (IntKind.i64.wrap (t18_19 - t20_20)) : Value) rfl rfl rfl (fun _ => by kernel_rfl) ?_
  refine q_k (.pointer (some ((⟨w_16.heap.size, 0, none⟩ : Addr).add 1)) : Value) rfl rfl rfl (fun _ => by kernel_rfl) ?_
  obtain ⟨t23_21, hx11, h⟩ := h
  refine q_v (v := (.int .i64 t23_21 : Value)) (s := Instr.loadAt 3 (.pointer (some ((⟨w_16.heap.size, 0, none⟩ : Addr).add 1)))) rfl rfl rfl (by kernel_rfl) (fun _ => rn_load (by kernel_rfl) hx11) ?_
  refine q_k (.pointer (some ((⟨w_16.heap.size, 0, none⟩ : Addr).add 3)) : Value) rfl rfl rfl (fun _ => by kernel_rfl) ?_
  obtain ⟨t25_22, hx12, h⟩ := h
  refine q_v (v := (.int .i64 t25_22 : Value)) (s := Instr.loadAt 3 (.pointer (some ((⟨w_16.heap.size, 0, none⟩ : Addr).add 3)))) rfl rfl rfl (by kernel_rfl) (fun _ => rn_load (by kernel_rfl) hx12) ?_
  refine q_k (.int .i64 (IntKind.i64.wrap (t23_21 - t25_22)) : Value) rfl rfl rfl (fun _ => by kernel_rfl) ?_
  refine q_k (.int .i64 (IntKind.i64.wrap (t18_19 - t20_20)) : Value) rfl rfl rfl (fun _ => by kernel_rfl) ?_
  refine q_k (.int .i64 (IntKind.i64.wrap (t23_21 - t25_22)) : Value) rfl rfl rfl (fun _ => by kernel_rfl) ?_
  refine q_nil (hQq8 _ fun m13 => ?_)
  replace h := h _ ⟨m13, rfl⟩
  generalize w_18.drewN m13 = w_23 at h ⊢
  refine y_then (hK7 _ _ ?_)
  refine y_ret ?_
  repeat (first | refine e_then_r ?_ | refine e_block_r ?_)
  exact (hQ0 _ _ _ (res2 (v1 := (.int .i64 (IntKind.i64.wrap (t18_19 - t20_20)) : Value)) (v2 := (.int .i64 (IntKind.i64.wrap (t23_21 - t25_22)) : Value)) rfl rfl rfl rfl) ⟨_, _, rfl, h⟩).1

/-- (*turnkey/quota.Book).Take -/
def F31 (q0_1 : Option Addr) (tenant1_2 : ByteArray) (window2_3 : Int) (series3_4 : Int) (samples4_5 : Int) (K : Int → World → Prop) (w : World) : Prop :=
  ∃ (a_6 : Addr), q0_1 = some a_6 ∧
  ∃ (t19_7 : Option Nat), w.cell? a_6 = some (.map t19_7) ∧
  ∃ (t21_8 : Int), ∃ (t21_9 : Int), ∃ (t21_10 : Int), ∃ (t21_11 : Int), ∃ (t21_12 : Int), ∃ (t21_13 : Bool), (Instr.lookup 105 (.map t19_7 : Value) (.string tenant1_2 : Value) true).run Try.prog w = .ok (.tuple #[.agg #[.int .i64 t21_8, .int .i64 t21_9, .int .i64 t21_10, .int .i64 t21_11, .int .i64 t21_12], .bool t21_13] : Value) w ∧
  ∀ (w_14 : World), w_14 = w.alloc (.cells #[.int .i64 0, .int .i64 0, .int .i64 0, .int .i64 0, .int .i64 0] 87) →
  HasCells w_14 (⟨w.heap.size, 0, none⟩ : Addr) 0 5 ∧ ∀ (w_15 : World), w_15 = setCells w_14 (⟨w.heap.size, 0, none⟩ : Addr) 0 [.int .i64 t21_8, .int .i64 t21_9, .int .i64 t21_10, .int .i64 t21_11, .int .i64 t21_12] →
  Calls Try.prog 30 #[.pointer q0_1, .string tenant1_2, .int .i64 window2_3] w_15 fun e w_18 => ∃ (t28_16 : Int), ∃ (t28_17 : Int), e = .returned (.tuple #[.int .i64 t28_16, .int .i64 t28_17] : Value) ∧
  ((t21_13 = false →
  K 171 w_18) ∧
  (t21_13 = true →
  ((series3_4 < 0 →
  K 1 w_18) ∧
  (¬ (series3_4 < 0) →
  ((samples4_5 < 0 →
  K 1 w_18) ∧
  (¬ (samples4_5 < 0) →
  ((series3_4 > t28_16 →
  K 150 w_18) ∧
  (¬ (series3_4 > t28_16) →
  ((samples4_5 > t28_17 →
  K 151 w_18) ∧
  (¬ (samples4_5 > t28_17) →
  ∃ (t49_19 : Int), ∃ (t49_20 : Int), ∃ (t49_21 : Int), ∃ (t49_22 : Int), ∃ (t49_23 : Int), CellsAt w_18 (⟨w.heap.size, 0, none⟩ : Addr) 0 [.int .i64 t49_19, .int .i64 t49_20, .int .i64 t49_21, .int .i64 t49_22, .int .i64 t49_23] ∧
  Calls Try.prog 57 #[.agg #[.int .i64 t49_19, .int .i64 t49_20, .int .i64 t49_21, .int .i64 t49_22, .int .i64 t49_23], .int .i64 window2_3] w_18 fun e w_29 => ∃ (t51_24 : Int), ∃ (t51_25 : Int), ∃ (t51_26 : Int), ∃ (t51_27 : Int), ∃ (t51_28 : Int), e = .returned (.agg #[.int .i64 t51_24, .int .i64 t51_25, .int .i64 t51_26, .int .i64 t51_27, .int .i64 t51_28] : Value) ∧
  HasCells w_29 (⟨w.heap.size, 0, none⟩ : Addr) 0 5 ∧ ∀ (w_30 : World), w_30 = setCells w_29 (⟨w.heap.size, 0, none⟩ : Addr) 0 [.int .i64 t51_24, .int .i64 t51_25, .int .i64 t51_26, .int .i64 t51_27, .int .i64 t51_28] →
  ∃ (t53_31 : Int), w_30.cell? ((⟨w.heap.size, 0, none⟩ : Addr).add 2) = some (.int .i64 t53_31) ∧
  HasCell w_30 ((⟨w.heap.size, 0, none⟩ : Addr).add 2) ∧ ∀ (w_32 : World), w_32 = w_30.setCell ((⟨w.heap.size, 0, none⟩ : Addr).add 2) (.int .i64 (IntKind.i64.wrap (t53_31 + series3_4)) : Value) →
  ∃ (t58_33 : Int), w_32.cell? ((⟨w.heap.size, 0, none⟩ : Addr).add 3) = some (.int .i64 t58_33) ∧
  HasCell w_32 ((⟨w.heap.size, 0, none⟩ : Addr).add 3) ∧ ∀ (w_34 : World), w_34 = w_32.setCell ((⟨w.heap.size, 0, none⟩ : Addr).add 3) (.int .i64 (IntKind.i64.wrap (t58_33 + samples4_5)) : Value) →
  ∀ (w_35 : World), w_35 = w_34.drew →
  ∃ (a_36 : Addr), q0_1 = some a_36 ∧
  ∃ (t65_37 : Option Nat), w_35.cell? a_36 = some (.map t65_37) ∧
  ∃ (t67_38 : Int), ∃ (t67_39 : Int), ∃ (t67_40 : Int), ∃ (t67_41 : Int), ∃ (t67_42 : Int), CellsAt w_35 (⟨w.heap.size, 0, none⟩ : Addr) 0 [.int .i64 t67_38, .int .i64 t67_39, .int .i64 t67_40, .int .i64 t67_41, .int .i64 t67_42] ∧
  ∃ (w_43 : World), (Instr.mapUpdate 105 (.map t65_37 : Value) (.string tenant1_2 : Value) (.agg #[.int .i64 t67_38, .int .i64 t67_39, .int .i64 t67_40, .int .i64 t67_41, .int .i64 t67_42] : Value)).run Try.prog w_35 = .ok () w_43 ∧ 
  K 0 w_43))))))))))
set_option maxHeartbeats 4000000 in
set_option maxRecDepth 20000 in
theorem F31_sound (q0_1 : Option Addr) (tenant1_2 : ByteArray) (window2_3 : Int) (series3_4 : Int) (samples4_5 : Int) (K : Int → World → Prop) (w : World) (h : F31 q0_1 tenant1_2 window2_3 series3_4 samples4_5 K w) :
    Calls Try.prog 31 #[.pointer q0_1, .string tenant1_2, .int .i64 window2_3, .int .i64 series3_4, .int .i64 samples4_5] w (fun e w1 => ∃ (r0 : Int), e = .returned (.int .i64 r0 : Value) ∧ K r0 w1) := by
  unfold F31 at h
  refine y_enter (n := 68) (args := [.pointer q0_1, .string tenant1_2, .int .i64 window2_3, .int .i64 series3_4, .int .i64 samples4_5]) Try.func31 rfl rfl rfl fun Q0 hQ0 => ?_
  refine y_seq fun K1 hK1 => ?_
  refine y_region ?_
  refine y_k (.int .i64 0 : Value) w rfl rfl rfl (by kernel_rfl) ?_
  refine y_nil ?_
  refine y_then (hK1 _ _ ?_)
  refine y_seq fun K2 hK2 => ?_
  refine y_region ?_
  refine y_k (.pointer q0_1 : Value) w rfl rfl rfl (by kernel_rfl) ?_
  obtain ⟨a_6, hx3, h⟩ := h
  refine y_k (.pointer (some a_6) : Value) w rfl rfl rfl (run_nilCheck hx3 rfl) ?_
  refine y_k (.pointer (some a_6) : Value) w rfl rfl rfl (by kernel_rfl) ?_
  obtain ⟨t19_7, hx4, h⟩ := h
  refine y_v (s := Instr.loadAt 105 (.pointer (some a_6))) rfl rfl rfl (by kernel_rfl) (rn_load (by kernel_rfl) hx4) ?_
  refine y_k (.string tenant1_2 : Value) w rfl rfl rfl (by kernel_rfl) ?_
  obtain ⟨t21_8, t21_9, t21_10, t21_11, t21_12, t21_13, hx5, h⟩ := h
  refine y_v (s := Instr.lookup 105 (.map t19_7 : Value) (.string tenant1_2 : Value) true) rfl rfl rfl (by kernel_rfl) (hx5) ?_
  refine y_k (.tuple #[.agg #[.int .i64 t21_8, .int .i64 t21_9, .int .i64 t21_10, .int .i64 t21_11, .int .i64 t21_12], .bool t21_13] : Value) w rfl rfl rfl (by kernel_rfl) ?_
  refine y_k (.agg #[.int .i64 t21_8, .int .i64 t21_9, .int .i64 t21_10, .int .i64 t21_11, .int .i64 t21_12] : Value) w rfl rfl rfl (by kernel_rfl) ?_
  refine y_k (.bool t21_13 : Value) w rfl rfl rfl (by kernel_rfl) ?_
  refine y_k (.pointer (some (⟨w.heap.size, 0, none⟩ : Addr)) : Value) (w.alloc (.cells #[.int .i64 0, .int .i64 0, .int .i64 0, .int .i64 0, .int .i64 0] 87)) rfl rfl rfl (by kernel_rfl) ?_
  replace h := h _ rfl
  generalize w.alloc (.cells #[.int .i64 0, .int .i64 0, .int .i64 0, .int .i64 0, .int .i64 0] 87) = w_14 at h ⊢
  obtain ⟨hx6, h⟩ := h
  replace h := h _ rfl
  refine y_u (s := Instr.storeAt 87 (.pointer (some (⟨w.heap.size, 0, none⟩ : Addr))) (.agg #[.int .i64 t21_8, .int .i64 t21_9, .int .i64 t21_10, .int .i64 t21_11, .int .i64 t21_12] : Value)) rfl rfl (by kernel_rfl) (rn_storecells (k := 5) (cs := [.int .i64 t21_8, .int .i64 t21_9, .int .i64 t21_10, .int .i64 t21_11, .int .i64 t21_12]) (by kernel_rfl) rfl (by simp [Value.oneCell']) hx6) ?_
  generalize setCells w_14 (⟨w.heap.size, 0, none⟩ : Addr) 0 [.int .i64 t21_8, .int .i64 t21_9, .int .i64 t21_10, .int .i64 t21_11, .int .i64 t21_12] = w_15 at h ⊢
  refine y_k (.bool t21_13 : Value) w_15 rfl rfl rfl (by kernel_rfl) ?_
  refine y_nil ?_
  refine y_then (hK2 _ _ ?_)
  refine y_seq fun K7 hK7 => ?_
  refine y_region ?_
  refine y_k (.pointer q0_1 : Value) w_15 rfl rfl rfl (by kernel_rfl) ?_
  refine y_k (.string tenant1_2 : Value) w_15 rfl rfl rfl (by kernel_rfl) ?_
  refine y_k (.int .i64 window2_3 : Value) w_15 rfl rfl rfl (by kernel_rfl) ?_
  refine y_call rfl rfl rfl (by kernel_rfl) (h.mono ?_)
  rintro _ w_18 ⟨t28_16, t28_17, rfl, h⟩
  refine ⟨_, rfl, ?_⟩
  refine y_k (.tuple #[.int .i64 t28_16, .int .i64 t28_17] : Value) w_18 rfl rfl rfl (by kernel_rfl) ?_
  refine y_k (.int .i64 t28_16 : Value) w_18 rfl rfl rfl (by kernel_rfl) ?_
  refine y_k (.int .i64 t28_17 : Value) w_18 rfl rfl rfl (by kernel_rfl) ?_
  refine y_k (.int .i64 t28_16 : Value) w_18 rfl rfl rfl (by kernel_rfl) ?_
  refine y_k (.int .i64 t28_17 : Value) w_18 rfl rfl rfl (by kernel_rfl) ?_
  refine y_nil ?_
  refine y_then (hK7 _ _ ?_)
  refine y_seq fun K8 hK8 => ?_
  refine y_block ?_
  refine y_seq fun K10 hK10 => ?_
  refine y_region ?_
  refine y_k (.bool t21_13 : Value) w_18 rfl rfl rfl (by kernel_rfl) ?_
  refine y_k (.bool (!(t21_13)) : Value) w_18 rfl rfl rfl (by kernel_rfl) ?_
  refine y_k (.bool (!(t21_13)) : Value) w_18 rfl rfl rfl (by kernel_rfl) ?_
  refine y_nil ?_
  refine y_then (hK10 _ _ ?_)
  refine y_cond (!(t21_13)) rfl rfl (fun hb39 => ?_) (fun hb39 => ?_)
  · replace h := h.1 ((not_true_of hb39))
    refine y_seq fun K11 hK11 => ?_
    refine y_region ?_
    refine y_k (.int .i64 171 : Value) w_18 rfl rfl rfl (by kernel_rfl) ?_
    refine y_nil ?_
    refine y_then (hK11 _ _ ?_)
    refine y_ret ?_
    repeat (first | refine e_then_r ?_ | refine e_block_r ?_)
    exact (hQ0 _ _ _ (res1 (v := (.int .i64 171 : Value)) rfl rfl rfl) ⟨_, rfl, h⟩).1
  · replace h := h.2 ((not_false_of hb39))
    refine y_seq fun K12 hK12 => ?_
    refine y_region ?_
    refine y_k (.int .i64 series3_4 : Value) w_18 rfl rfl rfl (by kernel_rfl) ?_
    refine y_k (.bool (decide (series3_4 < 0)) : Value) w_18 rfl rfl rfl (by kernel_rfl) ?_
    refine y_k (.bool (decide (series3_4 < 0)) : Value) w_18 rfl rfl rfl (by kernel_rfl) ?_
    refine y_fork (decide (series3_4 < 0)) (fun hb13 => ?_) (fun hb13 => ?_)
    · replace h := h.1 (of_decide_eq_true hb13)
      refine y_frame (upd_id (i := 37) (v := .bool true) rfl (congrArg Value.bool hb13)) ?_
      refine y_gno rfl rfl rfl rfl ?_
      refine y_gno rfl rfl rfl rfl ?_
      refine y_k (.bool true : Value) w_18 rfl rfl rfl (by kernel_rfl) ?_
      refine y_k (.bool true : Value) w_18 rfl rfl rfl (by kernel_rfl) ?_
      refine y_nil ?_
      refine y_then (hK12 _ _ ?_)
      refine y_cond_t rfl rfl ?_
      refine y_seq fun K14 hK14 => ?_
      refine y_region ?_
      refine y_k (.int .i64 1 : Value) w_18 rfl rfl rfl (by kernel_rfl) ?_
      refine y_nil ?_
      refine y_then (hK14 _ _ ?_)
      refine y_ret ?_
      repeat (first | refine e_then_r ?_ | refine e_block_r ?_)
      exact (hQ0 _ _ _ (res1 (v := (.int .i64 1 : Value)) rfl rfl rfl) ⟨_, rfl, h⟩).1
    · replace h := h.2 (of_decide_eq_false hb13)
      refine y_frame (upd_id (i := 37) (v := .bool false) rfl (congrArg Value.bool hb13)) ?_
      refine y_gyes rfl rfl rfl ?_
      refine y_k (.int .i64 samples4_5 : Value) w_18 rfl rfl rfl (by kernel_rfl) ?_
      refine y_gyes rfl rfl rfl ?_
      refine y_k (.bool (decide (samples4_5 < 0)) : Value) w_18 rfl rfl rfl (by kernel_rfl) ?_
      refine y_k (.bool (decide (samples4_5 < 0)) : Value) w_18 rfl rfl rfl (by kernel_rfl) ?_
      refine y_k (.bool (decide (samples4_5 < 0)) : Value) w_18 rfl rfl rfl (by kernel_rfl) ?_
      refine y_nil ?_
      refine y_then (hK12 _ _ ?_)
      refine y_cond (decide (samples4_5 < 0)) rfl rfl (fun hb38 => ?_) (fun hb38 => ?_)
      · replace h := h.1 (of_decide_eq_true hb38)
        refine y_seq fun K15 hK15 => ?_
        refine y_region ?_
        refine y_k (.int .i64 1 : Value) w_18 rfl rfl rfl (by kernel_rfl) ?_
        refine y_nil ?_
        refine y_then (hK15 _ _ ?_)
        refine y_ret ?_
        repeat (first | refine e_then_r ?_ | refine e_block_r ?_)
        exact (hQ0 _ _ _ (res1 (v := (.int .i64 1 : Value)) rfl rfl rfl) ⟨_, rfl, h⟩).1
      · replace h := h.2 (of_decide_eq_false hb38)
        refine y_seq fun K16 hK16 => ?_
        refine y_region ?_
        refine y_k (.int .i64 series3_4 : Value) w_18 rfl rfl rfl (by kernel_rfl) ?_
        refine y_k (.int .i64 t28_16 : Value) w_18 rfl rfl rfl (by kernel_rfl) ?_
        refine y_k (.bool (decide (series3_4 > t28_16)) : Value) w_18 rfl rfl rfl (by kernel_rfl) ?_
        refine y_k (.bool (decide (series3_4 > t28_16)) : Value) w_18 rfl rfl rfl (by kernel_rfl) ?_
        refine y_nil ?_
        refine y_then (hK16 _ _ ?_)
        refine y_cond (decide (series3_4 > t28_16)) rfl rfl (fun hb37 => ?_) (fun hb37 => ?_)
        · replace h := h.1 (of_decide_eq_true hb37)
          refine y_seq fun K17 hK17 => ?_
          refine y_region ?_
          refine y_k (.int .i64 150 : Value) w_18 rfl rfl rfl (by kernel_rfl) ?_
          refine y_nil ?_
          refine y_then (hK17 _ _ ?_)
          refine y_ret ?_
          repeat (first | refine e_then_r ?_ | refine e_block_r ?_)
          exact (hQ0 _ _ _ (res1 (v := (.int .i64 150 : Value)) rfl rfl rfl) ⟨_, rfl, h⟩).1
        · replace h := h.2 (of_decide_eq_false hb37)
          refine y_seq fun K18 hK18 => ?_
          refine y_region ?_
          refine y_k (.int .i64 samples4_5 : Value) w_18 rfl rfl rfl (by kernel_rfl) ?_
          refine y_k (.int .i64 t28_17 : Value) w_18 rfl rfl rfl (by kernel_rfl) ?_
          refine y_k (.bool (decide (samples4_5 > t28_17)) : Value) w_18 rfl rfl rfl (by kernel_rfl) ?_
          refine y_k (.bool (decide (samples4_5 > t28_17)) : Value) w_18 rfl rfl rfl (by kernel_rfl) ?_
          refine y_nil ?_
          refine y_then (hK18 _ _ ?_)
          refine y_cond (decide (samples4_5 > t28_17)) rfl rfl (fun hb36 => ?_) (fun hb36 => ?_)
          · replace h := h.1 (of_decide_eq_true hb36)
            refine y_seq fun K19 hK19 => ?_
            refine y_region ?_
            refine y_k (.int .i64 151 : Value) w_18 rfl rfl rfl (by kernel_rfl) ?_
            refine y_nil ?_
            refine y_then (hK19 _ _ ?_)
            refine y_ret ?_
            repeat (first | refine e_then_r ?_ | refine e_block_r ?_)
            exact (hQ0 _ _ _ (res1 (v := (.int .i64 151 : Value)) rfl rfl rfl) ⟨_, rfl, h⟩).1
          · replace h := h.2 (of_decide_eq_false hb36)
            refine y_skip ?_
            refine e_block_n ?_
            refine y_then (hK8 _ _ ?_)
            refine y_seq fun K20 hK20 => ?_
            refine y_region ?_
            obtain ⟨t49_19, t49_20, t49_21, t49_22, t49_23, hx21, h⟩ := h
            refine y_v (s := Instr.loadAt 87 (.pointer (some (⟨w.heap.size, 0, none⟩ : Addr)))) rfl rfl rfl (by kernel_rfl) (rn_loadcells (k := 5) ⟨by kernel_rfl, by kernel_rfl⟩ rfl hx21) ?_
            refine y_k (.int .i64 window2_3 : Value) w_18 rfl rfl rfl (by kernel_rfl) ?_
            refine y_call rfl rfl rfl (by kernel_rfl) (h.mono ?_)
            rintro _ w_29 ⟨t51_24, t51_25, t51_26, t51_27, t51_28, rfl, h⟩
            refine ⟨_, rfl, ?_⟩
            obtain ⟨hx22, h⟩ := h
            replace h := h _ rfl
            refine y_u (s := Instr.storeAt 87 (.pointer (some (⟨w.heap.size, 0, none⟩ : Addr))) (.agg #[.int .i64 t51_24, .int .i64 t51_25, .int .i64 t51_26, .int .i64 t51_27, .int .i64 t51_28] : Value)) rfl rfl (by kernel_rfl) (rn_storecells (k := 5) (cs := [.int .i64 t51_24, .int .i64 t51_25, .int .i64 t51_26, .int .i64 t51_27, .int .i64 t51_28]) (by kernel_rfl) rfl (by simp [Value.oneCell']) hx22) ?_
            generalize setCells w_29 (⟨w.heap.size, 0, none⟩ : Addr) 0 [.int .i64 t51_24, .int .i64 t51_25, .int .i64 t51_26, .int .i64 t51_27, .int .i64 t51_28] = w_30 at h ⊢
            refine y_nil ?_
            refine y_then (hK20 _ _ ?_)
            refine y_seq fun K23 hK23 => ?_
            refine y_region ?_
            refine y_k (.pointer (some ((⟨w.heap.size, 0, none⟩ : Addr).add 2)) : Value) w_30 rfl rfl rfl (by kernel_rfl) ?_
            obtain ⟨t53_31, hx24, h⟩ := h
            refine y_v (s := Instr.loadAt 3 (.pointer (some ((⟨w.heap.size, 0, none⟩ : Addr).add 2)))) rfl rfl rfl (by kernel_rfl) (rn_load (by kernel_rfl) hx24) ?_
            refine y_k (.int .i64 series3_4 : Value) w_30 rfl rfl rfl (by kernel_rfl) ?_
            refine y_k (.int .i64 (IntKind.i64.wrap (t53_31 + series3_4)) : Value) w_30 rfl rfl rfl (by kernel_rfl) ?_
            refine y_k (.pointer (some ((⟨w.heap.size, 0, none⟩ : Addr).add 2)) : Value) w_30 rfl rfl rfl (by kernel_rfl) ?_
            obtain ⟨hx25, h⟩ := h
            replace h := h _ rfl
            refine y_u (s := Instr.storeAt 3 (.pointer (some ((⟨w.heap.size, 0, none⟩ : Addr).add 2))) (.int .i64 (IntKind.i64.wrap (t53_31 + series3_4)) : Value)) rfl rfl (by kernel_rfl) (rn_store1 (by kernel_rfl) rfl hx25) ?_
            generalize w_30.setCell ((⟨w.heap.size, 0, none⟩ : Addr).add 2) (.int .i64 (IntKind.i64.wrap (t53_31 + series3_4)) : Value) = w_32 at h ⊢
            refine y_nil ?_
            refine y_then (hK23 _ _ ?_)
            refine y_seq fun K26 hK26 => ?_
            refine y_region ?_
            refine y_k (.pointer (some ((⟨w.heap.size, 0, none⟩ : Addr).add 3)) : Value) w_32 rfl rfl rfl (by kernel_rfl) ?_
            obtain ⟨t58_33, hx27, h⟩ := h
            refine y_v (s := Instr.loadAt 3 (.pointer (some ((⟨w.heap.size, 0, none⟩ : Addr).add 3)))) rfl rfl rfl (by kernel_rfl) (rn_load (by kernel_rfl) hx27) ?_
            refine y_k (.int .i64 samples4_5 : Value) w_32 rfl rfl rfl (by kernel_rfl) ?_
            refine y_k (.int .i64 (IntKind.i64.wrap (t58_33 + samples4_5)) : Value) w_32 rfl rfl rfl (by kernel_rfl) ?_
            refine y_k (.pointer (some ((⟨w.heap.size, 0, none⟩ : Addr).add 3)) : Value) w_32 rfl rfl rfl (by kernel_rfl) ?_
            obtain ⟨hx28, h⟩ := h
            replace h := h _ rfl
            refine y_u (s := Instr.storeAt 3 (.pointer (some ((⟨w.heap.size, 0, none⟩ : Addr).add 3))) (.int .i64 (IntKind.i64.wrap (t58_33 + samples4_5)) : Value)) rfl rfl (by kernel_rfl) (rn_store1 (by kernel_rfl) rfl hx28) ?_
            generalize w_32.setCell ((⟨w.heap.size, 0, none⟩ : Addr).add 3) (.int .i64 (IntKind.i64.wrap (t58_33 + samples4_5)) : Value) = w_34 at h ⊢
            refine y_nil ?_
            refine y_then (hK26 _ _ ?_)
            refine y_seq fun K29 hK29 => ?_
            obtain ⟨w_35, hwd30⟩ : ∃ wd : World, wd = w_34.drew := ⟨_, rfl⟩
            replace h := h _ hwd30
            refine t_region (wd := w_35) [] (by kernel_rfl) hwd30 SF_nil fun Q30 hE30 hp30 hS => ?_
            clear hwd30
            refine t_kw hp30 hS 0 (.pointer q0_1 : Value) rfl (wanted_none rfl) rfl rfl (by kernel_rfl) (fun _ _ => by kernel_rfl) fun hS => ?_
            obtain ⟨a_36, hx31, h⟩ := h
            refine t_kw hp30 hS 1 (.pointer (some a_36) : Value) rfl (wanted_none rfl) rfl rfl (by kernel_rfl) (fun _ _ => run_nilCheck hx31 rfl) fun hS => ?_
            refine t_kw hp30 hS 2 (.pointer (some a_36) : Value) rfl (wanted_none rfl) rfl rfl (by kernel_rfl) (fun _ _ => by kernel_rfl) fun hS => ?_
            obtain ⟨t65_37, hx32, h⟩ := h
            refine t_add ⟨3, [6], fun wx => wx.cell? a_36 = some (.map t65_37)⟩ ?_
            replace hS := SF_on (x := ⟨3, [6], fun wx => wx.cell? a_36 = some (.map t65_37)⟩) hx32 hS
            refine t_v (s := Instr.loadAt 105 (.pointer (some a_36))) hp30 hS 3 (.map t65_37 : Value) rfl (wanted_none rfl) rfl rfl (by kernel_rfl) (by kernel_rfl) (fun _ hw => rn_load (by kernel_rfl) (Sw.fact (List.Mem.head _) rfl hw)) fun hS => ?_
            refine t_kw hp30 hS 4 (.string tenant1_2 : Value) rfl (wanted_none rfl) rfl rfl (by kernel_rfl) (fun _ _ => by kernel_rfl) fun hS => ?_
            obtain ⟨t67_38, t67_39, t67_40, t67_41, t67_42, hx33, h⟩ := h
            refine t_add ⟨5, [6], fun wx => CellsAt wx (⟨w.heap.size, 0, none⟩ : Addr) 0 [.int .i64 t67_38, .int .i64 t67_39, .int .i64 t67_40, .int .i64 t67_41, .int .i64 t67_42]⟩ ?_
            replace hS := SF_on (x := ⟨5, [6], fun wx => CellsAt wx (⟨w.heap.size, 0, none⟩ : Addr) 0 [.int .i64 t67_38, .int .i64 t67_39, .int .i64 t67_40, .int .i64 t67_41, .int .i64 t67_42]⟩) hx33 hS
            refine t_v (s := Instr.loadAt 87 (.pointer (some (⟨w.heap.size, 0, none⟩ : Addr)))) hp30 hS 5 (.agg #[.int .i64 t67_38, .int .i64 t67_39, .int .i64 t67_40, .int .i64 t67_41, .int .i64 t67_42] : Value) rfl (wanted_none rfl) rfl rfl (by kernel_rfl) (by kernel_rfl) (fun _ hw => rn_loadcells (k := 5) ⟨by kernel_rfl, by kernel_rfl⟩ rfl (Sw.fact (List.Mem.head _) rfl hw)) fun hS => ?_
            obtain ⟨w_43, hx34, h⟩ := h
            refine t_u 6 (s := Instr.mapUpdate 105 (.map t65_37 : Value) (.string tenant1_2 : Value) (.agg #[.int .i64 t67_38, .int .i64 t67_39, .int .i64 t67_40, .int .i64 t67_41, .int .i64 t67_42] : Value)) (by kernel_rfl) rfl (wanted_none rfl) rfl (by kernel_rfl) hx34 (SF_off (by kernel_rfl) (by kernel_rfl) (SF_off (by kernel_rfl) (by kernel_rfl) SF_nil)) fun hS => ?_
            refine t_done (by kernel_rfl) (hE30 _ _ ?_)
            refine y_then (hK29 _ _ ?_)
            refine y_seq fun K35 hK35 => ?_
            refine y_region ?_
            refine y_k (.int .i64 0 : Value) w_43 rfl rfl rfl (by kernel_rfl) ?_
            refine y_nil ?_
            refine y_then (hK35 _ _ ?_)
            refine y_ret ?_
            repeat (first | refine e_then_r ?_ | refine e_block_r ?_)
            exact (hQ0 _ _ _ (res1 (v := (.int .i64 0 : Value)) rfl rfl rfl) ⟨_, rfl, h⟩).1

/-- (*turnkey/quota.Book).Drop -/
def F47 (q0_1 : Option Addr) (tenant1_2 : ByteArray) (K : Bool → World → Prop) (w : World) : Prop :=
  ∃ (a_3 : Addr), q0_1 = some a_3 ∧
  ∃ (t11_4 : Option Nat), w.cell? a_3 = some (.map t11_4) ∧
  ∃ (t13_5 : Int), ∃ (t13_6 : Int), ∃ (t13_7 : Int), ∃ (t13_8 : Int), ∃ (t13_9 : Int), ∃ (t13_10 : Bool), (Instr.lookup 105 (.map t11_4 : Value) (.string tenant1_2 : Value) true).run Try.prog w = .ok (.tuple #[.agg #[.int .i64 t13_5, .int .i64 t13_6, .int .i64 t13_7, .int .i64 t13_8, .int .i64 t13_9], .bool t13_10] : Value) w ∧
  ∀ (w_11 : World), w_11 = w.alloc (.cells #[.int .i64 0, .int .i64 0, .int .i64 0, .int .i64 0, .int .i64 0] 87) →
  HasCells w_11 (⟨w.heap.size, 0, none⟩ : Addr) 0 5 ∧ ∀ (w_12 : World), w_12 = setCells w_11 (⟨w.heap.size, 0, none⟩ : Addr) 0 [.int .i64 t13_5, .int .i64 t13_6, .int .i64 t13_7, .int .i64 t13_8, .int .i64 t13_9] →
  ∃ (a_13 : Addr), q0_1 = some a_13 ∧
  ∃ (t19_14 : Option Nat), w_12.cell? a_13 = some (.map t19_14) ∧
  ∃ (q0_15 : Value), ∃ (w_16 : World), (Builtin.delete_ #[105, 9] 0 #[.map t19_14, .string tenant1_2]).run Try.prog w_12 = .ok q0_15 w_16 ∧
  K t13_10 w_16
set_option maxHeartbeats 4000000 in
set_option maxRecDepth 20000 in
theorem F47_sound (q0_1 : Option Addr) (tenant1_2 : ByteArray) (K : Bool → World → Prop) (w : World) (h : F47 q0_1 tenant1_2 K w) :
    Calls Try.prog 47 #[.pointer q0_1, .string tenant1_2] w (fun e w1 => ∃ (r0 : Bool), e = .returned (.bool r0 : Value) ∧ K r0 w1) := by
  unfold F47 at h
  refine y_enter (n := 22) (args := [.pointer q0_1, .string tenant1_2]) Try.func47 rfl rfl rfl fun Q0 hQ0 => ?_
  refine y_seq fun K1 hK1 => ?_
  refine y_region ?_
  refine y_k (.bool false : Value) w rfl rfl rfl (by kernel_rfl) ?_
  refine y_nil ?_
  refine y_then (hK1 _ _ ?_)
  refine y_seq fun K2 hK2 => ?_
  refine y_region ?_
  refine y_k (.pointer q0_1 : Value) w rfl rfl rfl (by kernel_rfl) ?_
  obtain ⟨a_3, hx3, h⟩ := h
  refine y_k (.pointer (some a_3) : Value) w rfl rfl rfl (run_nilCheck hx3 rfl) ?_
  refine y_k (.pointer (some a_3) : Value) w rfl rfl rfl (by kernel_rfl) ?_
  obtain ⟨t11_4, hx4, h⟩ := h
  refine y_v (s := Instr.loadAt 105 (.pointer (some a_3))) rfl rfl rfl (by kernel_rfl) (rn_load (by kernel_rfl) hx4) ?_
  refine y_k (.string tenant1_2 : Value) w rfl rfl rfl (by kernel_rfl) ?_
  obtain ⟨t13_5, t13_6, t13_7, t13_8, t13_9, t13_10, hx5, h⟩ := h
  refine y_v (s := Instr.lookup 105 (.map t11_4 : Value) (.string tenant1_2 : Value) true) rfl rfl rfl (by kernel_rfl) (hx5) ?_
  refine y_k (.tuple #[.agg #[.int .i64 t13_5, .int .i64 t13_6, .int .i64 t13_7, .int .i64 t13_8, .int .i64 t13_9], .bool t13_10] : Value) w rfl rfl rfl (by kernel_rfl) ?_
  refine y_k (.agg #[.int .i64 t13_5, .int .i64 t13_6, .int .i64 t13_7, .int .i64 t13_8, .int .i64 t13_9] : Value) w rfl rfl rfl (by kernel_rfl) ?_
  refine y_k (.bool t13_10 : Value) w rfl rfl rfl (by kernel_rfl) ?_
  refine y_k (.pointer (some (⟨w.heap.size, 0, none⟩ : Addr)) : Value) (w.alloc (.cells #[.int .i64 0, .int .i64 0, .int .i64 0, .int .i64 0, .int .i64 0] 87)) rfl rfl rfl (by kernel_rfl) ?_
  replace h := h _ rfl
  generalize w.alloc (.cells #[.int .i64 0, .int .i64 0, .int .i64 0, .int .i64 0, .int .i64 0] 87) = w_11 at h ⊢
  obtain ⟨hx6, h⟩ := h
  replace h := h _ rfl
  refine y_u (s := Instr.storeAt 87 (.pointer (some (⟨w.heap.size, 0, none⟩ : Addr))) (.agg #[.int .i64 t13_5, .int .i64 t13_6, .int .i64 t13_7, .int .i64 t13_8, .int .i64 t13_9] : Value)) rfl rfl (by kernel_rfl) (rn_storecells (k := 5) (cs := [.int .i64 t13_5, .int .i64 t13_6, .int .i64 t13_7, .int .i64 t13_8, .int .i64 t13_9]) (by kernel_rfl) rfl (by simp [Value.oneCell']) hx6) ?_
  generalize setCells w_11 (⟨w.heap.size, 0, none⟩ : Addr) 0 [.int .i64 t13_5, .int .i64 t13_6, .int .i64 t13_7, .int .i64 t13_8, .int .i64 t13_9] = w_12 at h ⊢
  refine y_k (.bool t13_10 : Value) w_12 rfl rfl rfl (by kernel_rfl) ?_
  refine y_nil ?_
  refine y_then (hK2 _ _ ?_)
  refine y_seq fun K7 hK7 => ?_
  refine y_region ?_
  refine y_k (.pointer q0_1 : Value) w_12 rfl rfl rfl (by kernel_rfl) ?_
  obtain ⟨a_13, hx8, h⟩ := h
  refine y_k (.pointer (some a_13) : Value) w_12 rfl rfl rfl (run_nilCheck hx8 rfl) ?_
  refine y_k (.pointer (some a_13) : Value) w_12 rfl rfl rfl (by kernel_rfl) ?_
  obtain ⟨t19_14, hx9, h⟩ := h
  refine y_v (s := Instr.loadAt 105 (.pointer (some a_13))) rfl rfl rfl (by kernel_rfl) (rn_load (by kernel_rfl) hx9) ?_
  refine y_k (.string tenant1_2 : Value) w_12 rfl rfl rfl (by kernel_rfl) ?_
  obtain ⟨q0_15, w_16, hx10, h⟩ := h
  refine y_vn (s := Builtin.delete_ #[105, 9] 0 #[.map t19_14, .string tenant1_2]) rfl rfl (by kernel_rfl) hx10 ?_
  refine y_nil ?_
  refine y_then (hK7 _ _ ?_)
  refine y_seq fun K11 hK11 => ?_
  refine y_region ?_
  refine y_k (.bool t13_10 : Value) w_16 rfl rfl rfl (by kernel_rfl) ?_
  refine y_k (.bool t13_10 : Value) w_16 rfl rfl rfl (by kernel_rfl) ?_
  refine y_nil ?_
  refine y_then (hK11 _ _ ?_)
  refine y_ret ?_
  repeat (first | refine e_then_r ?_ | refine e_block_r ?_)
  exact (hQ0 _ _ _ (res1 (v := (.bool t13_10 : Value)) rfl rfl rfl) ⟨_, rfl, h⟩).1

/-- (*turnkey/quota.Book).Get -/
def F49 (q0_1 : Option Addr) (tenant1_2 : ByteArray) (K : Int → Int → Int → Int → Int → Bool → World → Prop) (w : World) : Prop :=
  ∀ (w_3 : World), w_3 = w.alloc (.cells #[.int .i64 0, .int .i64 0, .int .i64 0, .int .i64 0, .int .i64 0] 87) →
  ∃ (a_4 : Addr), q0_1 = some a_4 ∧
  ∃ (t12_5 : Option Nat), w_3.cell? a_4 = some (.map t12_5) ∧
  ∃ (t14_6 : Int), ∃ (t14_7 : Int), ∃ (t14_8 : Int), ∃ (t14_9 : Int), ∃ (t14_10 : Int), ∃ (t14_11 : Bool), (Instr.lookup 105 (.map t12_5 : Value) (.string tenant1_2 : Value) true).run Try.prog w_3 = .ok (.tuple #[.agg #[.int .i64 t14_6, .int .i64 t14_7, .int .i64 t14_8, .int .i64 t14_9, .int .i64 t14_10], .bool t14_11] : Value) w_3 ∧
  ∀ (w_12 : World), w_12 = w_3.alloc (.cells #[.int .i64 0, .int .i64 0, .int .i64 0, .int .i64 0, .int .i64 0] 87) →
  HasCells w_12 (⟨w_3.heap.size, 0, none⟩ : Addr) 0 5 ∧ ∀ (w_13 : World), w_13 = setCells w_12 (⟨w_3.heap.size, 0, none⟩ : Addr) 0 [.int .i64 t14_6, .int .i64 t14_7, .int .i64 t14_8, .int .i64 t14_9, .int .i64 t14_10] →
  ∃ (t17_14 : Int), ∃ (t17_15 : Int), ∃ (t17_16 : Int), ∃ (t17_17 : Int), ∃ (t17_18 : Int), CellsAt w_13 (⟨w_3.heap.size, 0, none⟩ : Addr) 0 [.int .i64 t17_14, .int .i64 t17_15, .int .i64 t17_16, .int .i64 t17_17, .int .i64 t17_18] ∧
  HasCells w_13 (⟨w.heap.size, 0, none⟩ : Addr) 0 5 ∧ ∀ (w_19 : World), w_19 = setCells w_13 (⟨w.heap.size, 0, none⟩ : Addr) 0 [.int .i64 t17_14, .int .i64 t17_15, .int .i64 t17_16, .int .i64 t17_17, .int .i64 t17_18] →
  ∃ (r0_20 : Int), ∃ (r0_21 : Int), ∃ (r0_22 : Int), ∃ (r0_23 : Int), ∃ (r0_24 : Int), CellsAt w_19 (⟨w.heap.size, 0, none⟩ : Addr) 0 [.int .i64 r0_20, .int .i64 r0_21, .int .i64 r0_22, .int .i64 r0_23, .int .i64 r0_24] ∧
  K r0_20 r0_21 r0_22 r0_23 r0_24 t14_11 w_19
set_option maxHeartbeats 4000000 in
set_option maxRecDepth 20000 in
theorem F49_sound (q0_1 : Option Addr) (tenant1_2 : ByteArray) (K : Int → Int → Int → Int → Int → Bool → World → Prop) (w : World) (h : F49 q0_1 tenant1_2 K w) :
    Calls Try.prog 49 #[.pointer q0_1, .string tenant1_2] w (fun e w1 => ∃ (r0 : Int), ∃ (r1 : Int), ∃ (r2 : Int), ∃ (r3 : Int), ∃ (r4 : Int), ∃ (r5 : Bool), e = .returned (.tuple #[.agg #[.int .i64 r0, .int .i64 r1, .int .i64 r2, .int .i64 r3, .int .i64 r4], .bool r5]) ∧ K r0 r1 r2 r3 r4 r5 w1) := by
  unfold F49 at h
  refine y_enter (n := 19) (args := [.pointer q0_1, .string tenant1_2]) Try.func49 rfl rfl rfl fun Q0 hQ0 => ?_
  refine y_seq fun K1 hK1 => ?_
  refine y_region ?_
  refine y_k (.pointer (some (⟨w.heap.size, 0, none⟩ : Addr)) : Value) (w.alloc (.cells #[.int .i64 0, .int .i64 0, .int .i64 0, .int .i64 0, .int .i64 0] 87)) rfl rfl rfl (by kernel_rfl) ?_
  replace h := h _ rfl
  generalize w.alloc (.cells #[.int .i64 0, .int .i64 0, .int .i64 0, .int .i64 0, .int .i64 0] 87) = w_3 at h ⊢
  refine y_k (.bool false : Value) w_3 rfl rfl rfl (by kernel_rfl) ?_
  refine y_nil ?_
  refine y_then (hK1 _ _ ?_)
  refine y_seq fun K2 hK2 => ?_
  refine y_region ?_
  refine y_k (.pointer q0_1 : Value) w_3 rfl rfl rfl (by kernel_rfl) ?_
  obtain ⟨a_4, hx3, h⟩ := h
  refine y_k (.pointer (some a_4) : Value) w_3 rfl rfl rfl (run_nilCheck hx3 rfl) ?_
  refine y_k (.pointer (some a_4) : Value) w_3 rfl rfl rfl (by kernel_rfl) ?_
  obtain ⟨t12_5, hx4, h⟩ := h
  refine y_v (s := Instr.loadAt 105 (.pointer (some a_4))) rfl rfl rfl (by kernel_rfl) (rn_load (by kernel_rfl) hx4) ?_
  refine y_k (.string tenant1_2 : Value) w_3 rfl rfl rfl (by kernel_rfl) ?_
  obtain ⟨t14_6, t14_7, t14_8, t14_9, t14_10, t14_11, hx5, h⟩ := h
  refine y_v (s := Instr.lookup 105 (.map t12_5 : Value) (.string tenant1_2 : Value) true) rfl rfl rfl (by kernel_rfl) (hx5) ?_
  refine y_k (.tuple #[.agg #[.int .i64 t14_6, .int .i64 t14_7, .int .i64 t14_8, .int .i64 t14_9, .int .i64 t14_10], .bool t14_11] : Value) w_3 rfl rfl rfl (by kernel_rfl) ?_
  refine y_k (.agg #[.int .i64 t14_6, .int .i64 t14_7, .int .i64 t14_8, .int .i64 t14_9, .int .i64 t14_10] : Value) w_3 rfl rfl rfl (by kernel_rfl) ?_
  refine y_k (.bool t14_11 : Value) w_3 rfl rfl rfl (by kernel_rfl) ?_
  refine y_k (.pointer (some (⟨w_3.heap.size, 0, none⟩ : Addr)) : Value) (w_3.alloc (.cells #[.int .i64 0, .int .i64 0, .int .i64 0, .int .i64 0, .int .i64 0] 87)) rfl rfl rfl (by kernel_rfl) ?_
  replace h := h _ rfl
  generalize w_3.alloc (.cells #[.int .i64 0, .int .i64 0, .int .i64 0, .int .i64 0, .int .i64 0] 87) = w_12 at h ⊢
  obtain ⟨hx6, h⟩ := h
  replace h := h _ rfl
  refine y_u (s := Instr.storeAt 87 (.pointer (some (⟨w_3.heap.size, 0, none⟩ : Addr))) (.agg #[.int .i64 t14_6, .int .i64 t14_7, .int .i64 t14_8, .int .i64 t14_9, .int .i64 t14_10] : Value)) rfl rfl (by kernel_rfl) (rn_storecells (k := 5) (cs := [.int .i64 t14_6, .int .i64 t14_7, .int .i64 t14_8, .int .i64 t14_9, .int .i64 t14_10]) (by kernel_rfl) rfl (by simp [Value.oneCell']) hx6) ?_
  generalize setCells w_12 (⟨w_3.heap.size, 0, none⟩ : Addr) 0 [.int .i64 t14_6, .int .i64 t14_7, .int .i64 t14_8, .int .i64 t14_9, .int .i64 t14_10] = w_13 at h ⊢
  refine y_k (.bool t14_11 : Value) w_13 rfl rfl rfl (by kernel_rfl) ?_
  refine y_nil ?_
  refine y_then (hK2 _ _ ?_)
  refine y_seq fun K7 hK7 => ?_
  refine y_region ?_
  obtain ⟨t17_14, t17_15, t17_16, t17_17, t17_18, hx8, h⟩ := h
  refine y_v (s := Instr.loadAt 87 (.pointer (some (⟨w_3.heap.size, 0, none⟩ : Addr)))) rfl rfl rfl (by kernel_rfl) (rn_loadcells (k := 5) ⟨by kernel_rfl, by kernel_rfl⟩ rfl hx8) ?_
  refine y_k (.bool t14_11 : Value) w_13 rfl rfl rfl (by kernel_rfl) ?_
  obtain ⟨hx9, h⟩ := h
  replace h := h _ rfl
  refine y_u (s := Instr.storeAt 87 (.pointer (some (⟨w.heap.size, 0, none⟩ : Addr))) (.agg #[.int .i64 t17_14, .int .i64 t17_15, .int .i64 t17_16, .int .i64 t17_17, .int .i64 t17_18] : Value)) rfl rfl (by kernel_rfl) (rn_storecells (k := 5) (cs := [.int .i64 t17_14, .int .i64 t17_15, .int .i64 t17_16, .int .i64 t17_17, .int .i64 t17_18]) (by kernel_rfl) rfl (by simp [Value.oneCell']) hx9) ?_
  generalize setCells w_13 (⟨w.heap.size, 0, none⟩ : Addr) 0 [.int .i64 t17_14, .int .i64 t17_15, .int .i64 t17_16, .int .i64 t17_17, .int .i64 t17_18] = w_19 at h ⊢
  refine y_k (.bool t14_11 : Value) w_19 rfl rfl rfl (by kernel_rfl) ?_
  refine y_nil ?_
  refine y_then (hK7 _ _ ?_)
  refine y_ret ?_
  repeat (first | refine e_then_r ?_ | refine e_block_r ?_)
  obtain ⟨r0_20, r0_21, r0_22, r0_23, r0_24, hx10, h⟩ := h
  exact (hQ0 _ _ _ (rs2 rfl (rs_cell (v := (.agg #[.int .i64 r0_20, .int .i64 r0_21, .int .i64 r0_22, .int .i64 r0_23, .int .i64 r0_24] : Value)) (ad := (⟨w.heap.size, 0, none⟩ : Addr)) rfl rfl (rn_loadcells (k := 5) ⟨by kernel_rfl, by kernel_rfl⟩ rfl hx10)) (rs_tmp (v := (.bool t14_11 : Value)) rfl rfl)) ⟨_, _, _, _, _, _, rfl, h⟩).1

/-- (*turnkey/quota.Book).Limits -/
def F69 (q0_1 : Option Addr) (tenant1_2 : ByteArray) (K : Int → Int → Bool → World → Prop) (w : World) : Prop :=
  ∃ (a_3 : Addr), q0_1 = some a_3 ∧
  ∃ (t12_4 : Option Nat), w.cell? a_3 = some (.map t12_4) ∧
  ∃ (t14_5 : Int), ∃ (t14_6 : Int), ∃ (t14_7 : Int), ∃ (t14_8 : Int), ∃ (t14_9 : Int), ∃ (t14_10 : Bool), (Instr.lookup 105 (.map t12_4 : Value) (.string tenant1_2 : Value) true).run Try.prog w = .ok (.tuple #[.agg #[.int .i64 t14_5, .int .i64 t14_6, .int .i64 t14_7, .int .i64 t14_8, .int .i64 t14_9], .bool t14_10] : Value) w ∧
  ∀ (w_11 : World), w_11 = w.alloc (.cells #[.int .i64 0, .int .i64 0, .int .i64 0, .int .i64 0, .int .i64 0] 87) →
  HasCells w_11 (⟨w.heap.size, 0, none⟩ : Addr) 0 5 ∧ ∀ (w_12 : World), w_12 = setCells w_11 (⟨w.heap.size, 0, none⟩ : Addr) 0 [.int .i64 t14_5, .int .i64 t14_6, .int .i64 t14_7, .int .i64 t14_8, .int .i64 t14_9] →
  ∃ (t18_13 : Int), w_12.cell? (⟨w.heap.size, 0, none⟩ : Addr) = some (.int .i64 t18_13) ∧
  ∃ (t20_14 : Int), w_12.cell? ((⟨w.heap.size, 0, none⟩ : Addr).add 1) = some (.int .i64 t20_14) ∧
  ∀ (w_15 : World), (∃ m, w_15 = w_12.drewN m) →
  K t18_13 t20_14 t14_10 w_15
set_option maxHeartbeats 4000000 in
set_option maxRecDepth 20000 in
theorem F69_sound (q0_1 : Option Addr) (tenant1_2 : ByteArray) (K : Int → Int → Bool → World → Prop) (w : World) (h : F69 q0_1 tenant1_2 K w) :
    Calls Try.prog 69 #[.pointer q0_1, .string tenant1_2] w (fun e w1 => ∃ (r0 : Int), ∃ (r1 : Int), ∃ (r2 : Bool), e = .returned (.tuple #[.int .i64 r0, .int .i64 r1, .bool r2]) ∧ K r0 r1 r2 w1) := by
  unfold F69 at h
  refine y_enter (n := 22) (args := [.pointer q0_1, .string tenant1_2]) Try.func69 rfl rfl rfl fun Q0 hQ0 => ?_
  refine y_seq fun K1 hK1 => ?_
  refine y_region ?_
  refine y_k (.int .i64 0 : Value) w rfl rfl rfl (by kernel_rfl) ?_
  refine y_k (.int .i64 0 : Value) w rfl rfl rfl (by kernel_rfl) ?_
  refine y_k (.bool false : Value) w rfl rfl rfl (by kernel_rfl) ?_
  refine y_nil ?_
  refine y_then (hK1 _ _ ?_)
  refine y_seq fun K2 hK2 => ?_
  refine y_region ?_
  refine y_k (.pointer q0_1 : Value) w rfl rfl rfl (by kernel_rfl) ?_
  obtain ⟨a_3, hx3, h⟩ := h
  refine y_k (.pointer (some a_3) : Value) w rfl rfl rfl (run_nilCheck hx3 rfl) ?_
  refine y_k (.pointer (some a_3) : Value) w rfl rfl rfl (by kernel_rfl) ?_
  obtain ⟨t12_4, hx4, h⟩ := h
  refine y_v (s := Instr.loadAt 105 (.pointer (some a_3))) rfl rfl rfl (by kernel_rfl) (rn_load (by kernel_rfl) hx4) ?_
  refine y_k (.string tenant1_2 : Value) w rfl rfl rfl (by kernel_rfl) ?_
  obtain ⟨t14_5, t14_6, t14_7, t14_8, t14_9, t14_10, hx5, h⟩ := h
  refine y_v (s := Instr.lookup 105 (.map t12_4 : Value) (.string tenant1_2 : Value) true) rfl rfl rfl (by kernel_rfl) (hx5) ?_
  refine y_k (.tuple #[.agg #[.int .i64 t14_5, .int .i64 t14_6, .int .i64 t14_7, .int .i64 t14_8, .int .i64 t14_9], .bool t14_10] : Value) w rfl rfl rfl (by kernel_rfl) ?_
  refine y_k (.agg #[.int .i64 t14_5, .int .i64 t14_6, .int .i64 t14_7, .int .i64 t14_8, .int .i64 t14_9] : Value) w rfl rfl rfl (by kernel_rfl) ?_
  refine y_k (.bool t14_10 : Value) w rfl rfl rfl (by kernel_rfl) ?_
  refine y_k (.pointer (some (⟨w.heap.size, 0, none⟩ : Addr)) : Value) (w.alloc (.cells #[.int .i64 0, .int .i64 0, .int .i64 0, .int .i64 0, .int .i64 0] 87)) rfl rfl rfl (by kernel_rfl) ?_
  replace h := h _ rfl
  generalize w.alloc (.cells #[.int .i64 0, .int .i64 0, .int .i64 0, .int .i64 0, .int .i64 0] 87) = w_11 at h ⊢
  obtain ⟨hx6, h⟩ := h
  replace h := h _ rfl
  refine y_u (s := Instr.storeAt 87 (.pointer (some (⟨w.heap.size, 0, none⟩ : Addr))) (.agg #[.int .i64 t14_5, .int .i64 t14_6, .int .i64 t14_7, .int .i64 t14_8, .int .i64 t14_9] : Value)) rfl rfl (by kernel_rfl) (rn_storecells (k := 5) (cs := [.int .i64 t14_5, .int .i64 t14_6, .int .i64 t14_7, .int .i64 t14_8, .int .i64 t14_9]) (by kernel_rfl) rfl (by simp [Value.oneCell']) hx6) ?_
  generalize setCells w_11 (⟨w.heap.size, 0, none⟩ : Addr) 0 [.int .i64 t14_5, .int .i64 t14_6, .int .i64 t14_7, .int .i64 t14_8, .int .i64 t14_9] = w_12 at h ⊢
  refine y_k (.bool t14_10 : Value) w_12 rfl rfl rfl (by kernel_rfl) ?_
  refine y_nil ?_
  refine y_then (hK2 _ _ ?_)
  refine y_seq fun K7 hK7 => ?_
  refine q_region (by kernel_rfl) (by kernel_rfl) fun Qq8 hQq8 => ?_
  refine q_k (.pointer (some (⟨w.heap.size, 0, none⟩ : Addr)) : Value) rfl rfl rfl (fun _ => by kernel_rfl) ?_
  obtain ⟨t18_13, hx9, h⟩ := h
  refine q_v (v := (.int .i64 t18_13 : Value)) (s := Instr.loadAt 3 (.pointer (some (⟨w.heap.size, 0, none⟩ : Addr)))) rfl rfl rfl (by kernel_rfl) (fun _ => rn_load (by kernel_rfl) hx9) ?_
  refine q_k (.pointer (some ((⟨w.heap.size, 0, none⟩ : Addr).add 1)) : Value) rfl rfl rfl (fun _ => by kernel_rfl) ?_
  obtain ⟨t20_14, hx10, h⟩ := h
  refine q_v (v := (.int .i64 t20_14 : Value)) (s := Instr.loadAt 3 (.pointer (some ((⟨w.heap.size, 0, none⟩ : Addr).add 1)))) rfl rfl rfl (by kernel_rfl) (fun _ => rn_load (by kernel_rfl) hx10) ?_
  refine q_k (.bool t14_10 : Value) rfl rfl rfl (fun _ => by kernel_rfl) ?_
  refine q_k (.int .i64 t18_13 : Value) rfl rfl rfl (fun _ => by kernel_rfl) ?_
  refine q_k (.int .i64 t20_14 : Value) rfl rfl rfl (fun _ => by kernel_rfl) ?_
  refine q_k (.bool t14_10 : Value) rfl rfl rfl (fun _ => by kernel_rfl) ?_
  refine q_nil (hQq8 _ fun m11 => ?_)
  replace h := h _ ⟨m11, rfl⟩
  generalize w_12.drewN m11 = w_15 at h ⊢
  refine y_then (hK7 _ _ ?_)
  refine y_ret ?_
  repeat (first | refine e_then_r ?_ | refine e_block_r ?_)
  exact (hQ0 _ _ _ (res3 (v1 := (.int .i64 t18_13 : Value)) (v2 := (.int .i64 t20_14 : Value)) (v3 := (.bool t14_10 : Value)) rfl rfl rfl rfl rfl) ⟨_, _, _, rfl, h⟩).1

def F27_j2 (K : Bool → World → Prop) (t0_31 : Bool) (w_32 : World) : Prop :=
  K t0_31 w_32
def F27_j1 (K : Bool → World → Prop) (t38_19 : Int) (t38_20 : Int) (t43_22 : Int) (t43_23 : Int) (t47_25 : Bool) (t49_27 : Bool) (one16_29 : Bool) (w_30 : World) : Prop :=
  ((one16_29 = true →
  ((t38_19 = 1 →
  ((t38_20 = 0 →
  ((t43_22 = 1 →
  ((t43_23 = 10 →
  ((t47_25 = true →
  F27_j2 K (!(t49_27)) w_30) ∧
  (t47_25 = false →
  F27_j2 K false w_30))) ∧
  (¬ t43_23 = 10 →
  F27_j2 K false w_30))) ∧
  (¬ t43_22 = 1 →
  F27_j2 K false w_30))) ∧
  (¬ t38_20 = 0 →
  F27_j2 K false w_30))) ∧
  (¬ t38_19 = 1 →
  F27_j2 K false w_30))) ∧
  (one16_29 = false →
  F27_j2 K false w_30))
/-- turnkey/turnkeylaw15.shown -/
def F27  (K : Bool → World → Prop) (w : World) : Prop :=
  Calls Try.prog 28 #[] w fun e w_2 => ∃ (t17_1 : Option Addr), e = .returned (.pointer t17_1 : Value) ∧
  ((t17_1.isNone = true →
  K false w_2) ∧
  (t17_1.isNone = false →
  Calls Try.prog 29 #[.pointer t17_1, .string ((ByteArray.mk #[97])), .int .i64 2, .int .i64 10] w_2 fun e w_4 => ∃ (t21_3 : Int), e = .returned (.int .i64 t21_3 : Value) ∧
  Calls Try.prog 29 #[.pointer t17_1, .string ((ByteArray.mk #[97])), .int .i64 2, .int .i64 10] w_4 fun e w_6 => ∃ (t23_5 : Int), e = .returned (.int .i64 t23_5 : Value) ∧
  Calls Try.prog 29 #[.pointer t17_1, .string ((ByteArray.mk #[98])), .int .i64 0, .int .i64 1] w_6 fun e w_8 => ∃ (t25_7 : Int), e = .returned (.int .i64 t25_7 : Value) ∧
  Calls Try.prog 31 #[.pointer t17_1, .string ((ByteArray.mk #[97])), .int .i64 7, .int .i64 1, .int .i64 8] w_8 fun e w_10 => ∃ (t27_9 : Int), e = .returned (.int .i64 t27_9 : Value) ∧
  Calls Try.prog 31 #[.pointer t17_1, .string ((ByteArray.mk #[97])), .int .i64 7, .int .i64 0, .int .i64 3] w_10 fun e w_12 => ∃ (t29_11 : Int), e = .returned (.int .i64 t29_11 : Value) ∧
  Calls Try.prog 31 #[.pointer t17_1, .string ((ByteArray.mk #[97])), .int .i64 8, .int .i64 2, .int .i64 11] w_12 fun e w_14 => ∃ (t31_13 : Int), e = .returned (.int .i64 t31_13 : Value) ∧
  Calls Try.prog 31 #[.pointer t17_1, .string ((ByteArray.mk #[97])), .int .i64 5, .int .i64 0, .int .i64 2] w_14 fun e w_16 => ∃ (t33_15 : Int), e = .returned (.int .i64 t33_15 : Value) ∧
  Calls Try.prog 31 #[.pointer t17_1, .string ((ByteArray.mk #[99])), .int .i64 1, .int .i64 1, .int .i64 1] w_16 fun e w_18 => ∃ (t35_17 : Int), e = .returned (.int .i64 t35_17 : Value) ∧
  Calls Try.prog 30 #[.pointer t17_1, .string ((ByteArray.mk #[97])), .int .i64 3] w_18 fun e w_21 => ∃ (t38_19 : Int), ∃ (t38_20 : Int), e = .returned (.tuple #[.int .i64 t38_19, .int .i64 t38_20] : Value) ∧
  Calls Try.prog 30 #[.pointer t17_1, .string ((ByteArray.mk #[97])), .int .i64 8] w_21 fun e w_24 => ∃ (t43_22 : Int), ∃ (t43_23 : Int), e = .returned (.tuple #[.int .i64 t43_22, .int .i64 t43_23] : Value) ∧
  Calls Try.prog 47 #[.pointer t17_1, .string ((ByteArray.mk #[97]))] w_24 fun e w_26 => ∃ (t47_25 : Bool), e = .returned (.bool t47_25 : Value) ∧
  Calls Try.prog 47 #[.pointer t17_1, .string ((ByteArray.mk #[97]))] w_26 fun e w_28 => ∃ (t49_27 : Bool), e = .returned (.bool t49_27 : Value) ∧
  ((t21_3 = 0 →
  ((t23_5 = 163 →
  ((t25_7 = 152 →
  ((t27_9 = 0 →
  ((t29_11 = 151 →
  ((t31_13 = 150 →
  ((t33_15 = 0 →
  F27_j1 K t38_19 t38_20 t43_22 t43_23 t47_25 t49_27 ((t35_17 == 171)) w_28) ∧
  (¬ t33_15 = 0 →
  F27_j1 K t38_19 t38_20 t43_22 t43_23 t47_25 t49_27 false w_28))) ∧
  (¬ t31_13 = 150 →
  F27_j1 K t38_19 t38_20 t43_22 t43_23 t47_25 t49_27 false w_28))) ∧
  (¬ t29_11 = 151 →
  F27_j1 K t38_19 t38_20 t43_22 t43_23 t47_25 t49_27 false w_28))) ∧
  (¬ t27_9 = 0 →
  F27_j1 K t38_19 t38_20 t43_22 t43_23 t47_25 t49_27 false w_28))) ∧
  (¬ t25_7 = 152 →
  F27_j1 K t38_19 t38_20 t43_22 t43_23 t47_25 t49_27 false w_28))) ∧
  (¬ t23_5 = 163 →
  F27_j1 K t38_19 t38_20 t43_22 t43_23 t47_25 t49_27 false w_28))) ∧
  (¬ t21_3 = 0 →
  F27_j1 K t38_19 t38_20 t43_22 t43_23 t47_25 t49_27 false w_28))))
set_option maxHeartbeats 4000000 in
set_option maxRecDepth 20000 in
theorem F27_sound  (K : Bool → World → Prop) (w : World) (h : F27  K w) :
    Calls Try.prog 27 #[] w (fun e w1 => ∃ (r0 : Bool), e = .returned (.bool r0 : Value) ∧ K r0 w1) := by
  unfold F27 at h
  refine y_enter (n := 104) (args := []) Try.func27 rfl rfl rfl fun Q0 hQ0 => ?_
  refine y_seq fun K1 hK1 => ?_
  refine y_region ?_
  refine y_k (.bool false : Value) w rfl rfl rfl (by kernel_rfl) ?_
  refine y_nil ?_
  refine y_then (hK1 _ _ ?_)
  refine y_seq fun K2 hK2 => ?_
  refine y_region ?_
  refine y_call rfl rfl rfl (by kernel_rfl) (h.mono ?_)
  rintro _ w_2 ⟨t17_1, rfl, h⟩
  refine ⟨_, rfl, ?_⟩
  refine y_k (.pointer t17_1 : Value) w_2 rfl rfl rfl (by kernel_rfl) ?_
  refine y_nil ?_
  refine y_then (hK2 _ _ ?_)
  refine y_seq fun K3 hK3 => ?_
  refine y_seq fun K4 hK4 => ?_
  refine y_region ?_
  refine y_k (.pointer t17_1 : Value) w_2 rfl rfl rfl (by kernel_rfl) ?_
  refine y_v (v := (.bool t17_1.isNone : Value)) (s := do eqGuard .eql 48 (Operand.tmp 18) (Operand.const (Value.pointer none)) (.pointer t17_1 : Value) (.pointer none : Value); binOp .eql 48 (.pointer t17_1 : Value) (.pointer none : Value)) rfl rfl rfl (by kernel_rfl) (run_eql_ptrnil (by kernel_rfl)) ?_
  refine y_nil ?_
  refine y_then (hK4 _ _ ?_)
  refine y_cond (t17_1.isNone) rfl rfl (fun hb33 => ?_) (fun hb33 => ?_)
  · replace h := h.1 (hb33)
    refine y_seq fun K5 hK5 => ?_
    refine y_region ?_
    refine y_k (.bool false : Value) w_2 rfl rfl rfl (by kernel_rfl) ?_
    refine y_nil ?_
    refine y_then (hK5 _ _ ?_)
    refine y_ret ?_
    repeat (first | refine e_then_r ?_ | refine e_block_r ?_)
    exact (hQ0 _ _ _ (res1 (v := (.bool false : Value)) rfl rfl rfl) ⟨_, rfl, h⟩).1
  · replace h := h.2 (hb33)
    refine y_skip ?_
    refine y_then (hK3 _ _ ?_)
    refine y_seq fun K6 hK6 => ?_
    refine y_region ?_
    refine y_k (.pointer t17_1 : Value) w_2 rfl rfl rfl (by kernel_rfl) ?_
    refine y_call rfl rfl rfl (by kernel_rfl) (h.mono ?_)
    rintro _ w_4 ⟨t21_3, rfl, h⟩
    refine ⟨_, rfl, ?_⟩
    refine y_k (.int .i64 t21_3 : Value) w_4 rfl rfl rfl (by kernel_rfl) ?_
    refine y_nil ?_
    refine y_then (hK6 _ _ ?_)
    refine y_seq fun K7 hK7 => ?_
    refine y_region ?_
    refine y_k (.pointer t17_1 : Value) w_4 rfl rfl rfl (by kernel_rfl) ?_
    refine y_call rfl rfl rfl (by kernel_rfl) (h.mono ?_)
    rintro _ w_6 ⟨t23_5, rfl, h⟩
    refine ⟨_, rfl, ?_⟩
    refine y_k (.int .i64 t23_5 : Value) w_6 rfl rfl rfl (by kernel_rfl) ?_
    refine y_nil ?_
    refine y_then (hK7 _ _ ?_)
    refine y_seq fun K8 hK8 => ?_
    refine y_region ?_
    refine y_k (.pointer t17_1 : Value) w_6 rfl rfl rfl (by kernel_rfl) ?_
    refine y_call rfl rfl rfl (by kernel_rfl) (h.mono ?_)
    rintro _ w_8 ⟨t25_7, rfl, h⟩
    refine ⟨_, rfl, ?_⟩
    refine y_k (.int .i64 t25_7 : Value) w_8 rfl rfl rfl (by kernel_rfl) ?_
    refine y_nil ?_
    refine y_then (hK8 _ _ ?_)
    refine y_seq fun K9 hK9 => ?_
    refine y_region ?_
    refine y_k (.pointer t17_1 : Value) w_8 rfl rfl rfl (by kernel_rfl) ?_
    refine y_call rfl rfl rfl (by kernel_rfl) (h.mono ?_)
    rintro _ w_10 ⟨t27_9, rfl, h⟩
    refine ⟨_, rfl, ?_⟩
    refine y_k (.int .i64 t27_9 : Value) w_10 rfl rfl rfl (by kernel_rfl) ?_
    refine y_nil ?_
    refine y_then (hK9 _ _ ?_)
    refine y_seq fun K10 hK10 => ?_
    refine y_region ?_
    refine y_k (.pointer t17_1 : Value) w_10 rfl rfl rfl (by kernel_rfl) ?_
    refine y_call rfl rfl rfl (by kernel_rfl) (h.mono ?_)
    rintro _ w_12 ⟨t29_11, rfl, h⟩
    refine ⟨_, rfl, ?_⟩
    refine y_k (.int .i64 t29_11 : Value) w_12 rfl rfl rfl (by kernel_rfl) ?_
    refine y_nil ?_
    refine y_then (hK10 _ _ ?_)
    refine y_seq fun K11 hK11 => ?_
    refine y_region ?_
    refine y_k (.pointer t17_1 : Value) w_12 rfl rfl rfl (by kernel_rfl) ?_
    refine y_call rfl rfl rfl (by kernel_rfl) (h.mono ?_)
    rintro _ w_14 ⟨t31_13, rfl, h⟩
    refine ⟨_, rfl, ?_⟩
    refine y_k (.int .i64 t31_13 : Value) w_14 rfl rfl rfl (by kernel_rfl) ?_
    refine y_nil ?_
    refine y_then (hK11 _ _ ?_)
    refine y_seq fun K12 hK12 => ?_
    refine y_region ?_
    refine y_k (.pointer t17_1 : Value) w_14 rfl rfl rfl (by kernel_rfl) ?_
    refine y_call rfl rfl rfl (by kernel_rfl) (h.mono ?_)
    rintro _ w_16 ⟨t33_15, rfl, h⟩
    refine ⟨_, rfl, ?_⟩
    refine y_k (.int .i64 t33_15 : Value) w_16 rfl rfl rfl (by kernel_rfl) ?_
    refine y_nil ?_
    refine y_then (hK12 _ _ ?_)
    refine y_seq fun K13 hK13 => ?_
    refine y_region ?_
    refine y_k (.pointer t17_1 : Value) w_16 rfl rfl rfl (by kernel_rfl) ?_
    refine y_call rfl rfl rfl (by kernel_rfl) (h.mono ?_)
    rintro _ w_18 ⟨t35_17, rfl, h⟩
    refine ⟨_, rfl, ?_⟩
    refine y_k (.int .i64 t35_17 : Value) w_18 rfl rfl rfl (by kernel_rfl) ?_
    refine y_nil ?_
    refine y_then (hK13 _ _ ?_)
    refine y_seq fun K14 hK14 => ?_
    refine y_region ?_
    refine y_k (.pointer t17_1 : Value) w_18 rfl rfl rfl (by kernel_rfl) ?_
    refine y_call rfl rfl rfl (by kernel_rfl) (h.mono ?_)
    rintro _ w_21 ⟨t38_19, t38_20, rfl, h⟩
    refine ⟨_, rfl, ?_⟩
    refine y_k (.tuple #[.int .i64 t38_19, .int .i64 t38_20] : Value) w_21 rfl rfl rfl (by kernel_rfl) ?_
    refine y_k (.int .i64 t38_19 : Value) w_21 rfl rfl rfl (by kernel_rfl) ?_
    refine y_k (.int .i64 t38_20 : Value) w_21 rfl rfl rfl (by kernel_rfl) ?_
    refine y_k (.int .i64 t38_19 : Value) w_21 rfl rfl rfl (by kernel_rfl) ?_
    refine y_k (.int .i64 t38_20 : Value) w_21 rfl rfl rfl (by kernel_rfl) ?_
    refine y_nil ?_
    refine y_then (hK14 _ _ ?_)
    refine y_seq fun K15 hK15 => ?_
    refine y_region ?_
    refine y_k (.pointer t17_1 : Value) w_21 rfl rfl rfl (by kernel_rfl) ?_
    refine y_call rfl rfl rfl (by kernel_rfl) (h.mono ?_)
    rintro _ w_24 ⟨t43_22, t43_23, rfl, h⟩
    refine ⟨_, rfl, ?_⟩
    refine y_k (.tuple #[.int .i64 t43_22, .int .i64 t43_23] : Value) w_24 rfl rfl rfl (by kernel_rfl) ?_
    refine y_k (.int .i64 t43_22 : Value) w_24 rfl rfl rfl (by kernel_rfl) ?_
    refine y_k (.int .i64 t43_23 : Value) w_24 rfl rfl rfl (by kernel_rfl) ?_
    refine y_k (.int .i64 t43_22 : Value) w_24 rfl rfl rfl (by kernel_rfl) ?_
    refine y_k (.int .i64 t43_23 : Value) w_24 rfl rfl rfl (by kernel_rfl) ?_
    refine y_nil ?_
    refine y_then (hK15 _ _ ?_)
    refine y_seq fun K16 hK16 => ?_
    refine y_region ?_
    refine y_k (.pointer t17_1 : Value) w_24 rfl rfl rfl (by kernel_rfl) ?_
    refine y_call rfl rfl rfl (by kernel_rfl) (h.mono ?_)
    rintro _ w_26 ⟨t47_25, rfl, h⟩
    refine ⟨_, rfl, ?_⟩
    refine y_k (.bool t47_25 : Value) w_26 rfl rfl rfl (by kernel_rfl) ?_
    refine y_nil ?_
    refine y_then (hK16 _ _ ?_)
    refine y_seq fun K17 hK17 => ?_
    refine y_region ?_
    refine y_k (.pointer t17_1 : Value) w_26 rfl rfl rfl (by kernel_rfl) ?_
    refine y_call rfl rfl rfl (by kernel_rfl) (h.mono ?_)
    rintro _ w_28 ⟨t49_27, rfl, h⟩
    refine ⟨_, rfl, ?_⟩
    refine y_k (.bool t49_27 : Value) w_28 rfl rfl rfl (by kernel_rfl) ?_
    refine y_nil ?_
    refine y_then (hK17 _ _ ?_)
    refine y_seq fun K18 hK18 => ?_
    have hjK18 : ∀ (f : Fr) (one16_29 : Bool) (w_30 : World), f 10 = (.int .i64 t38_19 : Value) → f 11 = (.int .i64 t38_20 : Value) → f 12 = (.int .i64 t43_22 : Value) → f 13 = (.int .i64 t43_23 : Value) → f 14 = (.bool t47_25 : Value) → f 15 = (.bool t49_27 : Value) → f 16 = (.bool one16_29 : Value) → F27_j1 K t38_19 t38_20 t43_22 t43_23 t47_25 t49_27 one16_29 w_30 → WK K18 104 f w_30 := by
      intro f one16_29 w_30 e10 e11 e12 e13 e14 e15 e16 h
      refine y_atf (upd_id (upd_id (upd_id (upd_id (upd_id (upd_id (upd_id rfl e10) e11) e12) e13) e14) e15) e16) ?_
      clear e10 e11 e12 e13 e14 e15 e16
      unfold F27_j1 at h
      refine hK18 _ _ ?_
      refine y_seq fun K26 hK26 => ?_
      have hjK26 : ∀ (f : Fr) (t0_31 : Bool) (w_32 : World), f 0 = (.bool t0_31 : Value) → F27_j2 K t0_31 w_32 → WK K26 104 f w_32 := by
        intro f t0_31 w_32 e0 h
        refine y_atf (upd_id rfl e0) ?_
        clear e0
        unfold F27_j2 at h
        refine hK26 _ _ ?_
        refine y_ret ?_
        repeat (first | refine e_then_r ?_ | refine e_block_r ?_)
        exact (hQ0 _ _ _ (res1 (v := (.bool t0_31 : Value)) rfl rfl rfl) ⟨_, rfl, h⟩).1
      refine y_region ?_
      refine y_k (.bool one16_29 : Value) w_30 rfl rfl rfl (by kernel_rfl) ?_
      refine y_k (.bool one16_29 : Value) w_30 rfl rfl rfl (by kernel_rfl) ?_
      refine y_fork (one16_29) (fun hb27 => ?_) (fun hb27 => ?_)
      · replace h := h.1 (hb27)
        refine y_frame (upd_id (i := 81) (v := .bool true) rfl (congrArg Value.bool hb27)) ?_
        refine y_gyes rfl rfl rfl ?_
        refine y_k (.int .i64 t38_19 : Value) w_30 rfl rfl rfl (by kernel_rfl) ?_
        refine y_gyes rfl rfl rfl ?_
        refine y_k (.bool ((t38_19 == 1)) : Value) w_30 rfl rfl rfl (by kernel_rfl) ?_
        refine y_k (.bool ((t38_19 == 1)) : Value) w_30 rfl rfl rfl (by kernel_rfl) ?_
        refine y_k (.bool ((t38_19 == 1)) : Value) w_30 rfl rfl rfl (by kernel_rfl) ?_
        refine y_fork ((t38_19 == 1)) (fun hb28 => ?_) (fun hb28 => ?_)
        · replace h := h.1 (eq_of_beq hb28)
          refine y_frame (upd_id (i := 85) (v := .bool true) rfl (congrArg Value.bool hb28)) ?_
          refine y_gyes rfl rfl rfl ?_
          refine y_k (.int .i64 t38_20 : Value) w_30 rfl rfl rfl (by kernel_rfl) ?_
          refine y_gyes rfl rfl rfl ?_
          refine y_k (.bool ((t38_20 == 0)) : Value) w_30 rfl rfl rfl (by kernel_rfl) ?_
          refine y_k (.bool ((t38_20 == 0)) : Value) w_30 rfl rfl rfl (by kernel_rfl) ?_
          refine y_k (.bool ((t38_20 == 0)) : Value) w_30 rfl rfl rfl (by kernel_rfl) ?_
          refine y_fork ((t38_20 == 0)) (fun hb29 => ?_) (fun hb29 => ?_)
          · replace h := h.1 (eq_of_beq hb29)
            refine y_frame (upd_id (i := 89) (v := .bool true) rfl (congrArg Value.bool hb29)) ?_
            refine y_gyes rfl rfl rfl ?_
            refine y_k (.int .i64 t43_22 : Value) w_30 rfl rfl rfl (by kernel_rfl) ?_
            refine y_gyes rfl rfl rfl ?_
            refine y_k (.bool ((t43_22 == 1)) : Value) w_30 rfl rfl rfl (by kernel_rfl) ?_
            refine y_k (.bool ((t43_22 == 1)) : Value) w_30 rfl rfl rfl (by kernel_rfl) ?_
            refine y_k (.bool ((t43_22 == 1)) : Value) w_30 rfl rfl rfl (by kernel_rfl) ?_
            refine y_fork ((t43_22 == 1)) (fun hb30 => ?_) (fun hb30 => ?_)
            · replace h := h.1 (eq_of_beq hb30)
              refine y_frame (upd_id (i := 93) (v := .bool true) rfl (congrArg Value.bool hb30)) ?_
              refine y_gyes rfl rfl rfl ?_
              refine y_k (.int .i64 t43_23 : Value) w_30 rfl rfl rfl (by kernel_rfl) ?_
              refine y_gyes rfl rfl rfl ?_
              refine y_k (.bool ((t43_23 == 10)) : Value) w_30 rfl rfl rfl (by kernel_rfl) ?_
              refine y_k (.bool ((t43_23 == 10)) : Value) w_30 rfl rfl rfl (by kernel_rfl) ?_
              refine y_k (.bool ((t43_23 == 10)) : Value) w_30 rfl rfl rfl (by kernel_rfl) ?_
              refine y_fork ((t43_23 == 10)) (fun hb31 => ?_) (fun hb31 => ?_)
              · replace h := h.1 (eq_of_beq hb31)
                refine y_frame (upd_id (i := 97) (v := .bool true) rfl (congrArg Value.bool hb31)) ?_
                refine y_gyes rfl rfl rfl ?_
                refine y_k (.bool t47_25 : Value) w_30 rfl rfl rfl (by kernel_rfl) ?_
                refine y_k (.bool t47_25 : Value) w_30 rfl rfl rfl (by kernel_rfl) ?_
                refine y_k (.bool t47_25 : Value) w_30 rfl rfl rfl (by kernel_rfl) ?_
                refine y_fork (t47_25) (fun hb32 => ?_) (fun hb32 => ?_)
                · replace h := h.1 (hb32)
                  refine y_frame (upd_id (i := 100) (v := .bool true) rfl (congrArg Value.bool hb32)) ?_
                  refine y_gyes rfl rfl rfl ?_
                  refine y_k (.bool t49_27 : Value) w_30 rfl rfl rfl (by kernel_rfl) ?_
                  refine y_gyes rfl rfl rfl ?_
                  refine y_k (.bool (!(t49_27)) : Value) w_30 rfl rfl rfl (by kernel_rfl) ?_
                  refine y_k (.bool (!(t49_27)) : Value) w_30 rfl rfl rfl (by kernel_rfl) ?_
                  refine y_k (.bool (!(t49_27)) : Value) w_30 rfl rfl rfl (by kernel_rfl) ?_
                  refine y_nil ?_
                  exact y_then (hjK26 _ (!(t49_27)) w_30 rfl h)
                · replace h := h.2 (hb32)
                  refine y_frame (upd_id (i := 100) (v := .bool false) rfl (congrArg Value.bool hb32)) ?_
                  refine y_gno rfl rfl rfl rfl ?_
                  refine y_gno rfl rfl rfl rfl ?_
                  refine y_k (.bool false : Value) w_30 rfl rfl rfl (by kernel_rfl) ?_
                  refine y_k (.bool false : Value) w_30 rfl rfl rfl (by kernel_rfl) ?_
                  refine y_nil ?_
                  exact y_then (hjK26 _ false w_30 rfl h)
              · replace h := h.2 (beq_eq_false_iff_ne.mp hb31)
                refine y_frame (upd_id (i := 97) (v := .bool false) rfl (congrArg Value.bool hb31)) ?_
                refine y_gno rfl rfl rfl rfl ?_
                refine y_k (.bool false : Value) w_30 rfl rfl rfl (by kernel_rfl) ?_
                refine y_k (.bool false : Value) w_30 rfl rfl rfl (by kernel_rfl) ?_
                refine y_gno rfl rfl rfl rfl ?_
                refine y_gno rfl rfl rfl rfl ?_
                refine y_k (.bool false : Value) w_30 rfl rfl rfl (by kernel_rfl) ?_
                refine y_k (.bool false : Value) w_30 rfl rfl rfl (by kernel_rfl) ?_
                refine y_nil ?_
                exact y_then (hjK26 _ false w_30 rfl h)
            · replace h := h.2 (beq_eq_false_iff_ne.mp hb30)
              refine y_frame (upd_id (i := 93) (v := .bool false) rfl (congrArg Value.bool hb30)) ?_
              refine y_gno rfl rfl rfl rfl ?_
              refine y_gno rfl rfl rfl rfl ?_
              refine y_k (.bool false : Value) w_30 rfl rfl rfl (by kernel_rfl) ?_
              refine y_k (.bool false : Value) w_30 rfl rfl rfl (by kernel_rfl) ?_
              refine y_gno rfl rfl rfl rfl ?_
              refine y_k (.bool false : Value) w_30 rfl rfl rfl (by kernel_rfl) ?_
              refine y_k (.bool false : Value) w_30 rfl rfl rfl (by kernel_rfl) ?_
              refine y_gno rfl rfl rfl rfl ?_
              refine y_gno rfl rfl rfl rfl ?_
              refine y_k (.bool false : Value) w_30 rfl rfl rfl (by kernel_rfl) ?_
              refine y_k (.bool false : Value) w_30 rfl rfl rfl (by kernel_rfl) ?_
              refine y_nil ?_
              exact y_then (hjK26 _ false w_30 rfl h)
          · replace h := h.2 (beq_eq_false_iff_ne.mp hb29)
            refine y_frame (upd_id (i := 89) (v := .bool false) rfl (congrArg Value.bool hb29)) ?_
            refine y_gno rfl rfl rfl rfl ?_
            refine y_gno rfl rfl rfl rfl ?_
            refine y_k (.bool false : Value) w_30 rfl rfl rfl (by kernel_rfl) ?_
            refine y_k (.bool false : Value) w_30 rfl rfl rfl (by kernel_rfl) ?_
            refine y_gno rfl rfl rfl rfl ?_
            refine y_gno rfl rfl rfl rfl ?_
            refine y_k (.bool false : Value) w_30 rfl rfl rfl (by kernel_rfl) ?_
            refine y_k (.bool false : Value) w_30 rfl rfl rfl (by kernel_rfl) ?_
            refine y_gno rfl rfl rfl rfl ?_
            refine y_k (.bool false : Value) w_30 rfl rfl rfl (by kernel_rfl) ?_
            refine y_k (.bool false : Value) w_30 rfl rfl rfl (by kernel_rfl) ?_
            refine y_gno rfl rfl rfl rfl ?_
            refine y_gno rfl rfl rfl rfl ?_
            refine y_k (.bool false : Value) w_30 rfl rfl rfl (by kernel_rfl) ?_
            refine y_k (.bool false : Value) w_30 rfl rfl rfl (by kernel_rfl) ?_
            refine y_nil ?_
            exact y_then (hjK26 _ false w_30 rfl h)
        · replace h := h.2 (beq_eq_false_iff_ne.mp hb28)
          refine y_frame (upd_id (i := 85) (v := .bool false) rfl (congrArg Value.bool hb28)) ?_
          refine y_gno rfl rfl rfl rfl ?_
          refine y_gno rfl rfl rfl rfl ?_
          refine y_k (.bool false : Value) w_30 rfl rfl rfl (by kernel_rfl) ?_
          refine y_k (.bool false : Value) w_30 rfl rfl rfl (by kernel_rfl) ?_
          refine y_gno rfl rfl rfl rfl ?_
          refine y_gno rfl rfl rfl rfl ?_
          refine y_k (.bool false : Value) w_30 rfl rfl rfl (by kernel_rfl) ?_
          refine y_k (.bool false : Value) w_30 rfl rfl rfl (by kernel_rfl) ?_
          refine y_gno rfl rfl rfl rfl ?_
          refine y_gno rfl rfl rfl rfl ?_
          refine y_k (.bool false : Value) w_30 rfl rfl rfl (by kernel_rfl) ?_
          refine y_k (.bool false : Value) w_30 rfl rfl rfl (by kernel_rfl) ?_
          refine y_gno rfl rfl rfl rfl ?_
          refine y_k (.bool false : Value) w_30 rfl rfl rfl (by kernel_rfl) ?_
          refine y_k (.bool false : Value) w_30 rfl rfl rfl (by kernel_rfl) ?_
          refine y_gno rfl rfl rfl rfl ?_
          refine y_gno rfl rfl rfl rfl ?_
          refine y_k (.bool false : Value) w_30 rfl rfl rfl (by kernel_rfl) ?_
          refine y_k (.bool false : Value) w_30 rfl rfl rfl (by kernel_rfl) ?_
          refine y_nil ?_
          exact y_then (hjK26 _ false w_30 rfl h)
      · replace h := h.2 (hb27)
        refine y_frame (upd_id (i := 81) (v := .bool false) rfl (congrArg Value.bool hb27)) ?_
        refine y_gno rfl rfl rfl rfl ?_
        refine y_gno rfl rfl rfl rfl ?_
        refine y_k (.bool false : Value) w_30 rfl rfl rfl (by kernel_rfl) ?_
        refine y_k (.bool false : Value) w_30 rfl rfl rfl (by kernel_rfl) ?_
        refine y_gno rfl rfl rfl rfl ?_
        refine y_gno rfl rfl rfl rfl ?_
        refine y_k (.bool false : Value) w_30 rfl rfl rfl (by kernel_rfl) ?_
        refine y_k (.bool false : Value) w_30 rfl rfl rfl (by kernel_rfl) ?_
        refine y_gno rfl rfl rfl rfl ?_
        refine y_gno rfl rfl rfl rfl ?_
        refine y_k (.bool false : Value) w_30 rfl rfl rfl (by kernel_rfl) ?_
        refine y_k (.bool false : Value) w_30 rfl rfl rfl (by kernel_rfl) ?_
        refine y_gno rfl rfl rfl rfl ?_
        refine y_gno rfl rfl rfl rfl ?_
        refine y_k (.bool false : Value) w_30 rfl rfl rfl (by kernel_rfl) ?_
        refine y_k (.bool false : Value) w_30 rfl rfl rfl (by kernel_rfl) ?_
        refine y_gno rfl rfl rfl rfl ?_
        refine y_k (.bool false : Value) w_30 rfl rfl rfl (by kernel_rfl) ?_
        refine y_k (.bool false : Value) w_30 rfl rfl rfl (by kernel_rfl) ?_
        refine y_gno rfl rfl rfl rfl ?_
        refine y_gno rfl rfl rfl rfl ?_
        refine y_k (.bool false : Value) w_30 rfl rfl rfl (by kernel_rfl) ?_
        refine y_k (.bool false : Value) w_30 rfl rfl rfl (by kernel_rfl) ?_
        refine y_nil ?_
        exact y_then (hjK26 _ false w_30 rfl h)
    refine y_region ?_
    refine y_k (.int .i64 t21_3 : Value) w_28 rfl rfl rfl (by kernel_rfl) ?_
    refine y_k (.bool ((t21_3 == 0)) : Value) w_28 rfl rfl rfl (by kernel_rfl) ?_
    refine y_k (.bool ((t21_3 == 0)) : Value) w_28 rfl rfl rfl (by kernel_rfl) ?_
    refine y_fork ((t21_3 == 0)) (fun hb19 => ?_) (fun hb19 => ?_)
    · replace h := h.1 (eq_of_beq hb19)
      refine y_frame (upd_id (i := 52) (v := .bool true) rfl (congrArg Value.bool hb19)) ?_
      refine y_gyes rfl rfl rfl ?_
      refine y_k (.int .i64 t23_5 : Value) w_28 rfl rfl rfl (by kernel_rfl) ?_
      refine y_gyes rfl rfl rfl ?_
      refine y_k (.bool ((t23_5 == 163)) : Value) w_28 rfl rfl rfl (by kernel_rfl) ?_
      refine y_k (.bool ((t23_5 == 163)) : Value) w_28 rfl rfl rfl (by kernel_rfl) ?_
      refine y_k (.bool ((t23_5 == 163)) : Value) w_28 rfl rfl rfl (by kernel_rfl) ?_
      refine y_fork ((t23_5 == 163)) (fun hb20 => ?_) (fun hb20 => ?_)
      · replace h := h.1 (eq_of_beq hb20)
        refine y_frame (upd_id (i := 56) (v := .bool true) rfl (congrArg Value.bool hb20)) ?_
        refine y_gyes rfl rfl rfl ?_
        refine y_k (.int .i64 t25_7 : Value) w_28 rfl rfl rfl (by kernel_rfl) ?_
        refine y_gyes rfl rfl rfl ?_
        refine y_k (.bool ((t25_7 == 152)) : Value) w_28 rfl rfl rfl (by kernel_rfl) ?_
        refine y_k (.bool ((t25_7 == 152)) : Value) w_28 rfl rfl rfl (by kernel_rfl) ?_
        refine y_k (.bool ((t25_7 == 152)) : Value) w_28 rfl rfl rfl (by kernel_rfl) ?_
        refine y_fork ((t25_7 == 152)) (fun hb21 => ?_) (fun hb21 => ?_)
        · replace h := h.1 (eq_of_beq hb21)
          refine y_frame (upd_id (i := 60) (v := .bool true) rfl (congrArg Value.bool hb21)) ?_
          refine y_gyes rfl rfl rfl ?_
          refine y_k (.int .i64 t27_9 : Value) w_28 rfl rfl rfl (by kernel_rfl) ?_
          refine y_gyes rfl rfl rfl ?_
          refine y_k (.bool ((t27_9 == 0)) : Value) w_28 rfl rfl rfl (by kernel_rfl) ?_
          refine y_k (.bool ((t27_9 == 0)) : Value) w_28 rfl rfl rfl (by kernel_rfl) ?_
          refine y_k (.bool ((t27_9 == 0)) : Value) w_28 rfl rfl rfl (by kernel_rfl) ?_
          refine y_fork ((t27_9 == 0)) (fun hb22 => ?_) (fun hb22 => ?_)
          · replace h := h.1 (eq_of_beq hb22)
            refine y_frame (upd_id (i := 64) (v := .bool true) rfl (congrArg Value.bool hb22)) ?_
            refine y_gyes rfl rfl rfl ?_
            refine y_k (.int .i64 t29_11 : Value) w_28 rfl rfl rfl (by kernel_rfl) ?_
            refine y_gyes rfl rfl rfl ?_
            refine y_k (.bool ((t29_11 == 151)) : Value) w_28 rfl rfl rfl (by kernel_rfl) ?_
            refine y_k (.bool ((t29_11 == 151)) : Value) w_28 rfl rfl rfl (by kernel_rfl) ?_
            refine y_k (.bool ((t29_11 == 151)) : Value) w_28 rfl rfl rfl (by kernel_rfl) ?_
            refine y_fork ((t29_11 == 151)) (fun hb23 => ?_) (fun hb23 => ?_)
            · replace h := h.1 (eq_of_beq hb23)
              refine y_frame (upd_id (i := 68) (v := .bool true) rfl (congrArg Value.bool hb23)) ?_
              refine y_gyes rfl rfl rfl ?_
              refine y_k (.int .i64 t31_13 : Value) w_28 rfl rfl rfl (by kernel_rfl) ?_
              refine y_gyes rfl rfl rfl ?_
              refine y_k (.bool ((t31_13 == 150)) : Value) w_28 rfl rfl rfl (by kernel_rfl) ?_
              refine y_k (.bool ((t31_13 == 150)) : Value) w_28 rfl rfl rfl (by kernel_rfl) ?_
              refine y_k (.bool ((t31_13 == 150)) : Value) w_28 rfl rfl rfl (by kernel_rfl) ?_
              refine y_fork ((t31_13 == 150)) (fun hb24 => ?_) (fun hb24 => ?_)
              · replace h := h.1 (eq_of_beq hb24)
                refine y_frame (upd_id (i := 72) (v := .bool true) rfl (congrArg Value.bool hb24)) ?_
                refine y_gyes rfl rfl rfl ?_
                refine y_k (.int .i64 t33_15 : Value) w_28 rfl rfl rfl (by kernel_rfl) ?_
                refine y_gyes rfl rfl rfl ?_
                refine y_k (.bool ((t33_15 == 0)) : Value) w_28 rfl rfl rfl (by kernel_rfl) ?_
                refine y_k (.bool ((t33_15 == 0)) : Value) w_28 rfl rfl rfl (by kernel_rfl) ?_
                refine y_k (.bool ((t33_15 == 0)) : Value) w_28 rfl rfl rfl (by kernel_rfl) ?_
                refine y_fork ((t33_15 == 0)) (fun hb25 => ?_) (fun hb25 => ?_)
                · replace h := h.1 (eq_of_beq hb25)
                  refine y_frame (upd_id (i := 76) (v := .bool true) rfl (congrArg Value.bool hb25)) ?_
                  refine y_gyes rfl rfl rfl ?_
                  refine y_k (.int .i64 t35_17 : Value) w_28 rfl rfl rfl (by kernel_rfl) ?_
                  refine y_gyes rfl rfl rfl ?_
                  refine y_k (.bool ((t35_17 == 171)) : Value) w_28 rfl rfl rfl (by kernel_rfl) ?_
                  refine y_k (.bool ((t35_17 == 171)) : Value) w_28 rfl rfl rfl (by kernel_rfl) ?_
                  refine y_k (.bool ((t35_17 == 171)) : Value) w_28 rfl rfl rfl (by kernel_rfl) ?_
                  refine y_nil ?_
                  exact y_then (hjK18 _ ((t35_17 == 171)) w_28 rfl rfl rfl rfl rfl rfl rfl h)
                · replace h := h.2 (beq_eq_false_iff_ne.mp hb25)
                  refine y_frame (upd_id (i := 76) (v := .bool false) rfl (congrArg Value.bool hb25)) ?_
                  refine y_gno rfl rfl rfl rfl ?_
                  refine y_gno rfl rfl rfl rfl ?_
                  refine y_k (.bool false : Value) w_28 rfl rfl rfl (by kernel_rfl) ?_
                  refine y_k (.bool false : Value) w_28 rfl rfl rfl (by kernel_rfl) ?_
                  refine y_nil ?_
                  exact y_then (hjK18 _ false w_28 rfl rfl rfl rfl rfl rfl rfl h)
              · replace h := h.2 (beq_eq_false_iff_ne.mp hb24)
                refine y_frame (upd_id (i := 72) (v := .bool false) rfl (congrArg Value.bool hb24)) ?_
                refine y_gno rfl rfl rfl rfl ?_
                refine y_gno rfl rfl rfl rfl ?_
                refine y_k (.bool false : Value) w_28 rfl rfl rfl (by kernel_rfl) ?_
                refine y_k (.bool false : Value) w_28 rfl rfl rfl (by kernel_rfl) ?_
                refine y_gno rfl rfl rfl rfl ?_
                refine y_gno rfl rfl rfl rfl ?_
                refine y_k (.bool false : Value) w_28 rfl rfl rfl (by kernel_rfl) ?_
                refine y_k (.bool false : Value) w_28 rfl rfl rfl (by kernel_rfl) ?_
                refine y_nil ?_
                exact y_then (hjK18 _ false w_28 rfl rfl rfl rfl rfl rfl rfl h)
            · replace h := h.2 (beq_eq_false_iff_ne.mp hb23)
              refine y_frame (upd_id (i := 68) (v := .bool false) rfl (congrArg Value.bool hb23)) ?_
              refine y_gno rfl rfl rfl rfl ?_
              refine y_gno rfl rfl rfl rfl ?_
              refine y_k (.bool false : Value) w_28 rfl rfl rfl (by kernel_rfl) ?_
              refine y_k (.bool false : Value) w_28 rfl rfl rfl (by kernel_rfl) ?_
              refine y_gno rfl rfl rfl rfl ?_
              refine y_gno rfl rfl rfl rfl ?_
              refine y_k (.bool false : Value) w_28 rfl rfl rfl (by kernel_rfl) ?_
              refine y_k (.bool false : Value) w_28 rfl rfl rfl (by kernel_rfl) ?_
              refine y_gno rfl rfl rfl rfl ?_
              refine y_gno rfl rfl rfl rfl ?_
              refine y_k (.bool false : Value) w_28 rfl rfl rfl (by kernel_rfl) ?_
              refine y_k (.bool false : Value) w_28 rfl rfl rfl (by kernel_rfl) ?_
              refine y_nil ?_
              exact y_then (hjK18 _ false w_28 rfl rfl rfl rfl rfl rfl rfl h)
          · replace h := h.2 (beq_eq_false_iff_ne.mp hb22)
            refine y_frame (upd_id (i := 64) (v := .bool false) rfl (congrArg Value.bool hb22)) ?_
            refine y_gno rfl rfl rfl rfl ?_
            refine y_gno rfl rfl rfl rfl ?_
            refine y_k (.bool false : Value) w_28 rfl rfl rfl (by kernel_rfl) ?_
            refine y_k (.bool false : Value) w_28 rfl rfl rfl (by kernel_rfl) ?_
            refine y_gno rfl rfl rfl rfl ?_
            refine y_gno rfl rfl rfl rfl ?_
            refine y_k (.bool false : Value) w_28 rfl rfl rfl (by kernel_rfl) ?_
            refine y_k (.bool false : Value) w_28 rfl rfl rfl (by kernel_rfl) ?_
            refine y_gno rfl rfl rfl rfl ?_
            refine y_gno rfl rfl rfl rfl ?_
            refine y_k (.bool false : Value) w_28 rfl rfl rfl (by kernel_rfl) ?_
            refine y_k (.bool false : Value) w_28 rfl rfl rfl (by kernel_rfl) ?_
            refine y_gno rfl rfl rfl rfl ?_
            refine y_gno rfl rfl rfl rfl ?_
            refine y_k (.bool false : Value) w_28 rfl rfl rfl (by kernel_rfl) ?_
            refine y_k (.bool false : Value) w_28 rfl rfl rfl (by kernel_rfl) ?_
            refine y_nil ?_
            exact y_then (hjK18 _ false w_28 rfl rfl rfl rfl rfl rfl rfl h)
        · replace h := h.2 (beq_eq_false_iff_ne.mp hb21)
          refine y_frame (upd_id (i := 60) (v := .bool false) rfl (congrArg Value.bool hb21)) ?_
          refine y_gno rfl rfl rfl rfl ?_
          refine y_gno rfl rfl rfl rfl ?_
          refine y_k (.bool false : Value) w_28 rfl rfl rfl (by kernel_rfl) ?_
          refine y_k (.bool false : Value) w_28 rfl rfl rfl (by kernel_rfl) ?_
          refine y_gno rfl rfl rfl rfl ?_
          refine y_gno rfl rfl rfl rfl ?_
          refine y_k (.bool false : Value) w_28 rfl rfl rfl (by kernel_rfl) ?_
          refine y_k (.bool false : Value) w_28 rfl rfl rfl (by kernel_rfl) ?_
          refine y_gno rfl rfl rfl rfl ?_
          refine y_gno rfl rfl rfl rfl ?_
          refine y_k (.bool false : Value) w_28 rfl rfl rfl (by kernel_rfl) ?_
          refine y_k (.bool false : Value) w_28 rfl rfl rfl (by kernel_rfl) ?_
          refine y_gno rfl rfl rfl rfl ?_
          refine y_gno rfl rfl rfl rfl ?_
          refine y_k (.bool false : Value) w_28 rfl rfl rfl (by kernel_rfl) ?_
          refine y_k (.bool false : Value) w_28 rfl rfl rfl (by kernel_rfl) ?_
          refine y_gno rfl rfl rfl rfl ?_
          refine y_gno rfl rfl rfl rfl ?_
          refine y_k (.bool false : Value) w_28 rfl rfl rfl (by kernel_rfl) ?_
          refine y_k (.bool false : Value) w_28 rfl rfl rfl (by kernel_rfl) ?_
          refine y_nil ?_
          exact y_then (hjK18 _ false w_28 rfl rfl rfl rfl rfl rfl rfl h)
      · replace h := h.2 (beq_eq_false_iff_ne.mp hb20)
        refine y_frame (upd_id (i := 56) (v := .bool false) rfl (congrArg Value.bool hb20)) ?_
        refine y_gno rfl rfl rfl rfl ?_
        refine y_gno rfl rfl rfl rfl ?_
        refine y_k (.bool false : Value) w_28 rfl rfl rfl (by kernel_rfl) ?_
        refine y_k (.bool false : Value) w_28 rfl rfl rfl (by kernel_rfl) ?_
        refine y_gno rfl rfl rfl rfl ?_
        refine y_gno rfl rfl rfl rfl ?_
        refine y_k (.bool false : Value) w_28 rfl rfl rfl (by kernel_rfl) ?_
        refine y_k (.bool false : Value) w_28 rfl rfl rfl (by kernel_rfl) ?_
        refine y_gno rfl rfl rfl rfl ?_
        refine y_gno rfl rfl rfl rfl ?_
        refine y_k (.bool false : Value) w_28 rfl rfl rfl (by kernel_rfl) ?_
        refine y_k (.bool false : Value) w_28 rfl rfl rfl (by kernel_rfl) ?_
        refine y_gno rfl rfl rfl rfl ?_
        refine y_gno rfl rfl rfl rfl ?_
        refine y_k (.bool false : Value) w_28 rfl rfl rfl (by kernel_rfl) ?_
        refine y_k (.bool false : Value) w_28 rfl rfl rfl (by kernel_rfl) ?_
        refine y_gno rfl rfl rfl rfl ?_
        refine y_gno rfl rfl rfl rfl ?_
        refine y_k (.bool false : Value) w_28 rfl rfl rfl (by kernel_rfl) ?_
        refine y_k (.bool false : Value) w_28 rfl rfl rfl (by kernel_rfl) ?_
        refine y_gno rfl rfl rfl rfl ?_
        refine y_gno rfl rfl rfl rfl ?_
        refine y_k (.bool false : Value) w_28 rfl rfl rfl (by kernel_rfl) ?_
        refine y_k (.bool false : Value) w_28 rfl rfl rfl (by kernel_rfl) ?_
        refine y_nil ?_
        exact y_then (hjK18 _ false w_28 rfl rfl rfl rfl rfl rfl rfl h)
    · replace h := h.2 (beq_eq_false_iff_ne.mp hb19)
      refine y_frame (upd_id (i := 52) (v := .bool false) rfl (congrArg Value.bool hb19)) ?_
      refine y_gno rfl rfl rfl rfl ?_
      refine y_gno rfl rfl rfl rfl ?_
      refine y_k (.bool false : Value) w_28 rfl rfl rfl (by kernel_rfl) ?_
      refine y_k (.bool false : Value) w_28 rfl rfl rfl (by kernel_rfl) ?_
      refine y_gno rfl rfl rfl rfl ?_
      refine y_gno rfl rfl rfl rfl ?_
      refine y_k (.bool false : Value) w_28 rfl rfl rfl (by kernel_rfl) ?_
      refine y_k (.bool false : Value) w_28 rfl rfl rfl (by kernel_rfl) ?_
      refine y_gno rfl rfl rfl rfl ?_
      refine y_gno rfl rfl rfl rfl ?_
      refine y_k (.bool false : Value) w_28 rfl rfl rfl (by kernel_rfl) ?_
      refine y_k (.bool false : Value) w_28 rfl rfl rfl (by kernel_rfl) ?_
      refine y_gno rfl rfl rfl rfl ?_
      refine y_gno rfl rfl rfl rfl ?_
      refine y_k (.bool false : Value) w_28 rfl rfl rfl (by kernel_rfl) ?_
      refine y_k (.bool false : Value) w_28 rfl rfl rfl (by kernel_rfl) ?_
      refine y_gno rfl rfl rfl rfl ?_
      refine y_gno rfl rfl rfl rfl ?_
      refine y_k (.bool false : Value) w_28 rfl rfl rfl (by kernel_rfl) ?_
      refine y_k (.bool false : Value) w_28 rfl rfl rfl (by kernel_rfl) ?_
      refine y_gno rfl rfl rfl rfl ?_
      refine y_gno rfl rfl rfl rfl ?_
      refine y_k (.bool false : Value) w_28 rfl rfl rfl (by kernel_rfl) ?_
      refine y_k (.bool false : Value) w_28 rfl rfl rfl (by kernel_rfl) ?_
      refine y_gno rfl rfl rfl rfl ?_
      refine y_gno rfl rfl rfl rfl ?_
      refine y_k (.bool false : Value) w_28 rfl rfl rfl (by kernel_rfl) ?_
      refine y_k (.bool false : Value) w_28 rfl rfl rfl (by kernel_rfl) ?_
      refine y_nil ?_
      exact y_then (hjK18 _ false w_28 rfl rfl rfl rfl rfl rfl rfl h)

end Go.Proofs.Ythhcaaellhdkiaa
