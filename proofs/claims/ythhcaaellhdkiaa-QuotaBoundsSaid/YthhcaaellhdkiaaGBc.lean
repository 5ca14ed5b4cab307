/- Printed by gen.py (own program, wip/): for each Go function a predicate transformer and its soundness. -/
import Derived.Test.YthhcaaellhdkiaaProg
import Derived.Test.YthhcaaellhdkiaaST
namespace Go.Proofs.Ythhcaaellhdkiaa
open Go Go.RowKit Go.Proofs.Ythhcaaellhdkiaa.SX
set_option linter.unusedVariables false

def F35_j1 (p0_1 : Option Addr) (K : Bool → World → Prop) (w_20 : World) : Prop :=
  ∀ (w_21 : World), w_21 = w_20.drew →
  ∃ (a_22 : Addr), p0_1 = some a_22 ∧
  ∃ (t81_23 : Option Addr), w_21.cell? a_22 = some (.pointer t81_23) ∧
  ∃ (a_24 : Addr), p0_1 = some a_24 ∧
  ∃ (t86_25 : Option Addr), w_21.cell? (a_24.add 1) = some (.pointer t86_25) ∧
  Calls Try.prog 44 #[.pointer t81_23] w_21 fun e w_27 => ∃ (t82_26 : Int), e = .returned (.int .i64 t82_26 : Value) ∧ w_27.cell? (a_24.add 1) = some (.pointer t86_25) ∧ 
  Calls Try.prog 60 #[.pointer t86_25] w_27 fun e w_29 => ∃ (t87_28 : Int), e = .returned (.int .i64 t87_28 : Value) ∧ 
  K ((t82_26 == t87_28)) w_29
/-- (*turnkey/turnkeylaw03.pair).step -/
def F35 (p0_1 : Option Addr) (o1_2 : Int) (o1_3 : Int) (o1_4 : Int) (o1_5 : Int) (K : Bool → World → Prop) (w : World) : Prop :=
  ∀ (w_6 : World), w_6 = w.alloc (.cells #[.int .i64 o1_2, .int .i64 o1_3, .int .u64 o1_4, .int .i64 o1_5] 68) →
  ∃ (t7_7 : Int), w_6.cell? (⟨w.heap.size, 0, none⟩ : Addr) = some (.int .i64 t7_7) ∧
  ((t7_7 = 0 →
  ∀ (w_8 : World), w_8 = w_6.drew →
  ∃ (a_9 : Addr), p0_1 = some a_9 ∧
  ∃ (t13_10 : Option Addr), w_8.cell? a_9 = some (.pointer t13_10) ∧
  ∃ (t15_11 : Int), w_8.cell? ((⟨w.heap.size, 0, none⟩ : Addr).add 2) = some (.int .u64 t15_11) ∧
  ∃ (t17_12 : Int), w_8.cell? ((⟨w.heap.size, 0, none⟩ : Addr).add 3) = some (.int .i64 t17_12) ∧
  Calls Try.prog 43 #[.pointer t13_10, .int .u64 t15_11, .int .i64 t17_12] w_8 fun e w_13 => e = .returned (.tuple #[] : Value) ∧ 
  ∀ (w_14 : World), w_14 = w_13.drew →
  ∃ (a_15 : Addr), p0_1 = some a_15 ∧
  ∃ (t22_16 : Option Addr), w_14.cell? (a_15.add 1) = some (.pointer t22_16) ∧
  ∃ (t24_17 : Int), w_14.cell? ((⟨w.heap.size, 0, none⟩ : Addr).add 2) = some (.int .u64 t24_17) ∧
  ∃ (t26_18 : Int), w_14.cell? ((⟨w.heap.size, 0, none⟩ : Addr).add 3) = some (.int .i64 t26_18) ∧
  Calls Try.prog 58 #[.pointer t22_16, .int .u64 t24_17, .int .i64 t26_18] w_14 fun e w_19 => e = .returned (.tuple #[] : Value) ∧ 
  F35_j1 p0_1 K w_19) ∧
  (¬ t7_7 = 0 →
  ((t7_7 = 1 →
  ∀ (w_30 : World), w_30 = w_6.drew →
  ∃ (a_31 : Addr), p0_1 = some a_31 ∧
  ∃ (t33_32 : Option Addr), w_30.cell? a_31 = some (.pointer t33_32) ∧
  ∃ (t35_33 : Int), w_30.cell? ((⟨w.heap.size, 0, none⟩ : Addr).add 3) = some (.int .i64 t35_33) ∧
  Calls Try.prog 45 #[.pointer t33_32, .int .i64 t35_33] w_30 fun e w_34 => e = .returned (.tuple #[] : Value) ∧ 
  ∀ (w_35 : World), w_35 = w_34.drew →
  ∃ (a_36 : Addr), p0_1 = some a_36 ∧
  ∃ (t40_37 : Option Addr), w_35.cell? (a_36.add 1) = some (.pointer t40_37) ∧
  ∃ (t42_38 : Int), w_35.cell? ((⟨w.heap.size, 0, none⟩ : Addr).add 3) = some (.int .i64 t42_38) ∧
  Calls Try.prog 59 #[.pointer t40_37, .int .i64 t42_38] w_35 fun e w_39 => e = .returned (.tuple #[] : Value) ∧ 
  F35_j1 p0_1 K w_39) ∧
  (¬ t7_7 = 1 →
  ((t7_7 = 2 →
  ∀ (w_40 : World), w_40 = w_6.drew →
  ∃ (a_41 : Addr), p0_1 = some a_41 ∧
  ∃ (t49_42 : Option Addr), w_40.cell? a_41 = some (.pointer t49_42) ∧
  ∃ (a_43 : Addr), p0_1 = some a_43 ∧
  ∃ (t53_44 : Int), w_40.cell? (a_43.add 4) = some (.int .i64 t53_44) ∧
  Calls Try.prog 45 #[.pointer t49_42, .int .i64 t53_44] w_40 fun e w_45 => e = .returned (.tuple #[] : Value) ∧ 
  ∀ (w_46 : World), w_46 = w_45.drew →
  ∃ (a_47 : Addr), p0_1 = some a_47 ∧
  ∃ (t58_48 : Option Addr), w_46.cell? (a_47.add 1) = some (.pointer t58_48) ∧
  ∃ (a_49 : Addr), p0_1 = some a_49 ∧
  ∃ (t62_50 : Int), w_46.cell? (a_49.add 4) = some (.int .i64 t62_50) ∧
  Calls Try.prog 59 #[.pointer t58_48, .int .i64 t62_50] w_46 fun e w_51 => e = .returned (.tuple #[] : Value) ∧ 
  ∃ (a_52 : Addr), p0_1 = some a_52 ∧
  ∃ (t68_53 : Option Addr), w_51.cell? (a_52.add 1) = some (.pointer t68_53) ∧
  Calls Try.prog 60 #[.pointer t68_53] w_51 fun e w_55 => ∃ (t69_54 : Int), e = .returned (.int .i64 t69_54 : Value) ∧
  ∃ (a_56 : Addr), p0_1 = some a_56 ∧
  HasCell w_55 (a_56.add 4) ∧ ∀ (w_57 : World), w_57 = w_55.setCell (a_56.add 4) (.int .i64 t69_54 : Value) →
  F35_j1 p0_1 K w_57) ∧
  (¬ t7_7 = 2 →
  ((t7_7 = 3 →
  Calls Try.prog 36 #[.pointer p0_1] w_6 fun e w_59 => ∃ (t75_58 : Bool), e = .returned (.bool t75_58 : Value) ∧
  ((t75_58 = false →
  K false w_59) ∧
  (t75_58 = true →
  F35_j1 p0_1 K w_59))) ∧
  (¬ t7_7 = 3 →
  F35_j1 p0_1 K w_6))))))))
set_option maxHeartbeats 4000000 in
set_option maxRecDepth 20000 in
theorem F35_sound (p0_1 : Option Addr) (o1_2 : Int) (o1_3 : Int) (o1_4 : Int) (o1_5 : Int) (K : Bool → World → Prop) (w : World) (h : F35 p0_1 o1_2 o1_3 o1_4 o1_5 K w) :
    Calls Try.prog 35 #[.pointer p0_1, .agg #[.int .i64 o1_2, .int .i64 o1_3, .int .u64 o1_4, .int .i64 o1_5]] w (fun e w1 => ∃ (r0 : Bool), e = .returned (.bool r0 : Value) ∧ K r0 w1) := by
  unfold F35 at h
  refine y_enter (n := 89) (args := [.pointer p0_1, .agg #[.int .i64 o1_2, .int .i64 o1_3, .int .u64 o1_4, .int .i64 o1_5]]) Try.func35 rfl rfl rfl fun Q0 hQ0 => ?_
  refine y_seq fun K1 hK1 => ?_
  refine y_region ?_
  refine y_k (.pointer (some (⟨w.heap.size, 0, none⟩ : Addr)) : Value) (w.alloc (.cells #[.int .i64 o1_2, .int .i64 o1_3, .int .u64 o1_4, .int .i64 o1_5] 68)) rfl rfl rfl (by kernel_rfl) ?_
  replace h := h _ rfl
  generalize w.alloc (.cells #[.int .i64 o1_2, .int .i64 o1_3, .int .u64 o1_4, .int .i64 o1_5] 68) = w_6 at h ⊢
  refine y_k (.bool false : Value) w_6 rfl rfl rfl (by kernel_rfl) ?_
  refine y_nil ?_
  refine y_then (hK1 _ _ ?_)
  refine y_seq fun K2 hK2 => ?_
  have hjK2 : ∀ (f : Fr) (w_20 : World), f 0 = (.pointer p0_1 : Value) → F35_j1 p0_1 K w_20 → WK K2 89 f w_20 := by
    intro f  w_20 e0 h
    refine y_atf (upd_id rfl e0) ?_
    clear e0
    unfold F35_j1 at h
    refine hK2 _ _ ?_
    refine y_seq fun K18 hK18 => ?_
    obtain ⟨w_21, hwd19⟩ : ∃ wd : World, wd = w_20.drew := ⟨_, rfl⟩
    replace h := h _ hwd19
    refine t_region (wd := w_21) [] (by kernel_rfl) hwd19 SF_nil fun Q19 hE19 hp19 hS => ?_
    clear hwd19
    refine t_kw hp19 hS 0 (.pointer p0_1 : Value) rfl (wanted_none rfl) rfl rfl (by kernel_rfl) (fun _ _ => by kernel_rfl) fun hS => ?_
    obtain ⟨a_22, hx20, h⟩ := h
    refine t_kw hp19 hS 1 (.pointer (some a_22) : Value) rfl (wanted_none rfl) rfl rfl (by kernel_rfl) (fun _ _ => run_nilCheck hx20 rfl) fun hS => ?_
    refine t_kw hp19 hS 2 (.pointer (some a_22) : Value) rfl (wanted_none rfl) rfl rfl (by kernel_rfl) (fun _ _ => by kernel_rfl) fun hS => ?_
    obtain ⟨t81_23, hx21, h⟩ := h
    refine t_add ⟨3, [4, 9], fun wx => wx.cell? a_22 = some (.pointer t81_23)⟩ ?_
    replace hS := SF_on (x := ⟨3, [4, 9], fun wx => wx.cell? a_22 = some (.pointer t81_23)⟩) hx21 hS
    refine t_v (s := Instr.loadAt 60 (.pointer (some a_22))) hp19 hS 3 (.pointer t81_23 : Value) rfl (wanted_none rfl) rfl rfl (by kernel_rfl) (by kernel_rfl) (fun _ hw => rn_load (by kernel_rfl) (Sw.fact (List.Mem.head _) rfl hw)) fun hS => ?_
    refine t_kw hp19 hS 5 (.pointer p0_1 : Value) rfl (wanted_none rfl) rfl rfl (by kernel_rfl) (fun _ _ => by kernel_rfl) fun hS => ?_
    obtain ⟨a_24, hx22, h⟩ := h
    refine t_kw hp19 hS 6 (.pointer (some a_24) : Value) rfl (wanted_none rfl) rfl rfl (by kernel_rfl) (fun _ _ => run_nilCheck hx22 rfl) fun hS => ?_
    refine t_kw hp19 hS 7 (.pointer (some (a_24.add 1)) : Value) rfl (wanted_none rfl) rfl rfl (by kernel_rfl) (fun _ _ => by kernel_rfl) fun hS => ?_
    obtain ⟨t86_25, hx23, h⟩ := h
    refine t_add ⟨8, [9], fun wx => wx.cell? (a_24.add 1) = some (.pointer t86_25)⟩ ?_
    replace hS := SF_on (x := ⟨8, [9], fun wx => wx.cell? (a_24.add 1) = some (.pointer t86_25)⟩) hx23 hS
    refine t_v (s := Instr.loadAt 62 (.pointer (some (a_24.add 1)))) hp19 hS 8 (.pointer t86_25 : Value) rfl (wanted_none rfl) rfl rfl (by kernel_rfl) (by kernel_rfl) (fun _ hw => rn_load (by kernel_rfl) (Sw.fact (List.Mem.head _) rfl hw)) fun hS => ?_
    refine t_call 4 (by kernel_rfl) rfl (wanted_none rfl) rfl rfl (by kernel_rfl) (h.mono ?_)
    rintro _ w_27 ⟨t82_26, rfl, hx24, h⟩
    refine ⟨_, rfl, (SF_on hx24 (SF_off (by kernel_rfl) (by kernel_rfl) SF_nil)), fun hS => ?_⟩
    refine t_call 9 (by kernel_rfl) rfl (wanted_none rfl) rfl rfl (by kernel_rfl) (h.mono ?_)
    rintro _ w_29 ⟨t87_28, rfl, h⟩
    refine ⟨_, rfl, (SF_off (by kernel_rfl) (by kernel_rfl) (SF_off (by kernel_rfl) (by kernel_rfl) SF_nil)), fun hS => ?_⟩
    refine t_kw hp19 hS 10 (.bool ((t82_26 == t87_28)) : Value) rfl (wanted_none rfl) rfl rfl (by kernel_rfl) (fun _ _ => by kernel_rfl) fun hS => ?_
    refine t_kw hp19 hS 11 (.bool ((t82_26 == t87_28)) : Value) rfl (wanted_none rfl) rfl rfl (by kernel_rfl) (fun _ _ => by kernel_rfl) fun hS => ?_
    refine t_done (by kernel_rfl) (hE19 _ _ ?_)
    refine y_then (hK18 _ _ ?_)
    refine y_ret ?_
    repeat (first | refine e_then_r ?_ | refine e_block_r ?_)
    exact (hQ0 _ _ _ (res1 (v := (.bool ((t82_26 == t87_28)) : Value)) rfl rfl rfl) ⟨_, rfl, h⟩).1
  refine y_seq fun K3 hK3 => ?_
  refine y_region ?_
  refine y_k (.pointer (some (⟨w.heap.size, 0, none⟩ : Addr)) : Value) w_6 rfl rfl rfl (by kernel_rfl) ?_
  obtain ⟨t7_7, hx4, h⟩ := h
  refine y_v (s := Instr.loadAt 3 (.pointer (some (⟨w.heap.size, 0, none⟩ : Addr)))) rfl rfl rfl (by kernel_rfl) (rn_load (by kernel_rfl) hx4) ?_
  refine y_nil ?_
  refine y_then (hK3 _ _ ?_)
  refine y_block ?_
  refine y_seq fun K6 hK6 => ?_
  refine y_region ?_
  refine y_k (.bool ((t7_7 == 0)) : Value) w_6 rfl rfl rfl (by kernel_rfl) ?_
  refine y_k (.bool ((t7_7 == 0)) : Value) w_6 rfl rfl rfl (by kernel_rfl) ?_
  refine y_nil ?_
  refine y_then (hK6 _ _ ?_)
  refine y_cond ((t7_7 == 0)) rfl rfl (fun hb60 => ?_) (fun hb60 => ?_)
  · replace h := h.1 (eq_of_beq hb60)
    refine y_seq fun K7 hK7 => ?_
    obtain ⟨w_8, hwd8⟩ : ∃ wd : World, wd = w_6.drew := ⟨_, rfl⟩
    replace h := h _ hwd8
    refine t_region (wd := w_8) [] (by kernel_rfl) hwd8 SF_nil fun Q8 hE8 hp8 hS => ?_
    clear hwd8
    refine t_kw hp8 hS 0 (.pointer p0_1 : Value) rfl (wanted_none rfl) rfl rfl (by kernel_rfl) (fun _ _ => by kernel_rfl) fun hS => ?_
    obtain ⟨a_9, hx9, h⟩ := h
    refine t_kw hp8 hS 1 (.pointer (some a_9) : Value) rfl (wanted_none rfl) rfl rfl (by kernel_rfl) (fun _ _ => run_nilCheck hx9 rfl) fun hS => ?_
    refine t_kw hp8 hS 2 (.pointer (some a_9) : Value) rfl (wanted_none rfl) rfl rfl (by kernel_rfl) (fun _ _ => by kernel_rfl) fun hS => ?_
    obtain ⟨t13_10, hx10, h⟩ := h
    refine t_add ⟨3, [8], fun wx => wx.cell? a_9 = some (.pointer t13_10)⟩ ?_
    replace hS := SF_on (x := ⟨3, [8], fun wx => wx.cell? a_9 = some (.pointer t13_10)⟩) hx10 hS
    refine t_v (s := Instr.loadAt 60 (.pointer (some a_9))) hp8 hS 3 (.pointer t13_10 : Value) rfl (wanted_none rfl) rfl rfl (by kernel_rfl) (by kernel_rfl) (fun _ hw => rn_load (by kernel_rfl) (Sw.fact (List.Mem.head _) rfl hw)) fun hS => ?_
    refine t_kw hp8 hS 4 (.pointer (some ((⟨w.heap.size, 0, none⟩ : Addr).add 2)) : Value) rfl (wanted_none rfl) rfl rfl (by kernel_rfl) (fun _ _ => by kernel_rfl) fun hS => ?_
    obtain ⟨t15_11, hx11, h⟩ := h
    refine t_add ⟨5, [8], fun wx => wx.cell? ((⟨w.heap.size, 0, none⟩ : Addr).add 2) = some (.int .u64 t15_11)⟩ ?_
    replace hS := SF_on (x := ⟨5, [8], fun wx => wx.cell? ((⟨w.heap.size, 0, none⟩ : Addr).add 2) = some (.int .u64 t15_11)⟩) hx11 hS
    refine t_v (s := Instr.loadAt 23 (.pointer (some ((⟨w.heap.size, 0, none⟩ : Addr).add 2)))) hp8 hS 5 (.int .u64 t15_11 : Value) rfl (wanted_none rfl) rfl rfl (by kernel_rfl) (by kernel_rfl) (fun _ hw => rn_load (by kernel_rfl) (Sw.fact (List.Mem.head _) rfl hw)) fun hS => ?_
    refine t_kw hp8 hS 6 (.pointer (some ((⟨w.heap.size, 0, none⟩ : Addr).add 3)) : Value) rfl (wanted_none rfl) rfl rfl (by kernel_rfl) (fun _ _ => by kernel_rfl) fun hS => ?_
    obtain ⟨t17_12, hx12, h⟩ := h
    refine t_add ⟨7, [8], fun wx => wx.cell? ((⟨w.heap.size, 0, none⟩ : Addr).add 3) = some (.int .i64 t17_12)⟩ ?_
    replace hS := SF_on (x := ⟨7, [8], fun wx => wx.cell? ((⟨w.heap.size, 0, none⟩ : Addr).add 3) = some (.int .i64 t17_12)⟩) hx12 hS
    refine t_v (s := Instr.loadAt 3 (.pointer (some ((⟨w.heap.size, 0, none⟩ : Addr).add 3)))) hp8 hS 7 (.int .i64 t17_12 : Value) rfl (wanted_none rfl) rfl rfl (by kernel_rfl) (by kernel_rfl) (fun _ hw => rn_load (by kernel_rfl) (Sw.fact (List.Mem.head _) rfl hw)) fun hS => ?_
    refine t_call 8 (by kernel_rfl) rfl (wanted_none rfl) rfl rfl (by kernel_rfl) (h.mono ?_)
    rintro _ w_13 ⟨rfl, h⟩
    refine ⟨_, rfl, (SF_off (by kernel_rfl) (by kernel_rfl) (SF_off (by kernel_rfl) (by kernel_rfl) (SF_off (by kernel_rfl) (by kernel_rfl) SF_nil))), fun hS => ?_⟩
    refine t_done (by kernel_rfl) (hE8 _ _ ?_)
    refine y_then (hK7 _ _ ?_)
    obtain ⟨w_14, hwd13⟩ : ∃ wd : World, wd = w_13.drew := ⟨_, rfl⟩
    replace h := h _ hwd13
    refine t_region (wd := w_14) [] (by kernel_rfl) hwd13 SF_nil fun Q13 hE13 hp13 hS => ?_
    clear hwd13
    refine t_kw hp13 hS 0 (.pointer p0_1 : Value) rfl (wanted_none rfl) rfl rfl (by kernel_rfl) (fun _ _ => by kernel_rfl) fun hS => ?_
    obtain ⟨a_15, hx14, h⟩ := h
    refine t_kw hp13 hS 1 (.pointer (some a_15) : Value) rfl (wanted_none rfl) rfl rfl (by kernel_rfl) (fun _ _ => run_nilCheck hx14 rfl) fun hS => ?_
    refine t_kw hp13 hS 2 (.pointer (some (a_15.add 1)) : Value) rfl (wanted_none rfl) rfl rfl (by kernel_rfl) (fun _ _ => by kernel_rfl) fun hS => ?_
    obtain ⟨t22_16, hx15, h⟩ := h
    refine t_add ⟨3, [8], fun wx => wx.cell? (a_15.add 1) = some (.pointer t22_16)⟩ ?_
    replace hS := SF_on (x := ⟨3, [8], fun wx => wx.cell? (a_15.add 1) = some (.pointer t22_16)⟩) hx15 hS
    refine t_v (s := Instr.loadAt 62 (.pointer (some (a_15.add 1)))) hp13 hS 3 (.pointer t22_16 : Value) rfl (wanted_none rfl) rfl rfl (by kernel_rfl) (by kernel_rfl) (fun _ hw => rn_load (by kernel_rfl) (Sw.fact (List.Mem.head _) rfl hw)) fun hS => ?_
    refine t_kw hp13 hS 4 (.pointer (some ((⟨w.heap.size, 0, none⟩ : Addr).add 2)) : Value) rfl (wanted_none rfl) rfl rfl (by kernel_rfl) (fun _ _ => by kernel_rfl) fun hS => ?_
    obtain ⟨t24_17, hx16, h⟩ := h
    refine t_add ⟨5, [8], fun wx => wx.cell? ((⟨w.heap.size, 0, none⟩ : Addr).add 2) = some (.int .u64 t24_17)⟩ ?_
    replace hS := SF_on (x := ⟨5, [8], fun wx => wx.cell? ((⟨w.heap.size, 0, none⟩ : Addr).add 2) = some (.int .u64 t24_17)⟩) hx16 hS
    refine t_v (s := Instr.loadAt 23 (.pointer (some ((⟨w.heap.size, 0, none⟩ : Addr).add 2)))) hp13 hS 5 (.int .u64 t24_17 : Value) rfl (wanted_none rfl) rfl rfl (by kernel_rfl) (by kernel_rfl) (fun _ hw => rn_load (by kernel_rfl) (Sw.fact (List.Mem.head _) rfl hw)) fun hS => ?_
    refine t_kw hp13 hS 6 (.pointer (some ((⟨w.heap.size, 0, none⟩ : Addr).add 3)) : Value) rfl (wanted_none rfl) rfl rfl (by kernel_rfl) (fun _ _ => by kernel_rfl) fun hS => ?_
    obtain ⟨t26_18, hx17, h⟩ := h
    refine t_add ⟨7, [8], fun wx => wx.cell? ((⟨w.heap.size, 0, none⟩ : Addr).add 3) = some (.int .i64 t26_18)⟩ ?_
    replace hS := SF_on (x := ⟨7, [8], fun wx => wx.cell? ((⟨w.heap.size, 0, none⟩ : Addr).add 3) = some (.int .i64 t26_18)⟩) hx17 hS
    refine t_v (s := Instr.loadAt 3 (.pointer (some ((⟨w.heap.size, 0, none⟩ : Addr).add 3)))) hp13 hS 7 (.int .i64 t26_18 : Value) rfl (wanted_none rfl) rfl rfl (by kernel_rfl) (by kernel_rfl) (fun _ hw => rn_load (by kernel_rfl) (Sw.fact (List.Mem.head _) rfl hw)) fun hS => ?_
    refine t_call 8 (by kernel_rfl) rfl (wanted_none rfl) rfl rfl (by kernel_rfl) (h.mono ?_)
    rintro _ w_19 ⟨rfl, h⟩
    refine ⟨_, rfl, (SF_off (by kernel_rfl) (by kernel_rfl) (SF_off (by kernel_rfl) (by kernel_rfl) (SF_off (by kernel_rfl) (by kernel_rfl) SF_nil))), fun hS => ?_⟩
    refine t_done (by kernel_rfl) (hE13 _ _ ?_)
    refine e_block_n ?_
    exact y_then (hjK2 _ w_19 rfl h)
  · replace h := h.2 (beq_eq_false_iff_ne.mp hb60)
    refine y_seq fun K25 hK25 => ?_
    refine y_region ?_
    refine y_k (.bool ((t7_7 == 1)) : Value) w_6 rfl rfl rfl (by kernel_rfl) ?_
    refine y_k (.bool ((t7_7 == 1)) : Value) w_6 rfl rfl rfl (by kernel_rfl) ?_
    refine y_nil ?_
    refine y_then (hK25 _ _ ?_)
    refine y_cond ((t7_7 == 1)) rfl rfl (fun hb59 => ?_) (fun hb59 => ?_)
    · replace h := h.1 (eq_of_beq hb59)
      refine y_seq fun K26 hK26 => ?_
      obtain ⟨w_30, hwd27⟩ : ∃ wd : World, wd = w_6.drew := ⟨_, rfl⟩
      replace h := h _ hwd27
      refine t_region (wd := w_30) [] (by kernel_rfl) hwd27 SF_nil fun Q27 hE27 hp27 hS => ?_
      clear hwd27
      refine t_kw hp27 hS 0 (.pointer p0_1 : Value) rfl (wanted_none rfl) rfl rfl (by kernel_rfl) (fun _ _ => by kernel_rfl) fun hS => ?_
      obtain ⟨a_31, hx28, h⟩ := h
      refine t_kw hp27 hS 1 (.pointer (some a_31) : Value) rfl (wanted_none rfl) rfl rfl (by kernel_rfl) (fun _ _ => run_nilCheck hx28 rfl) fun hS => ?_
      refine t_kw hp27 hS 2 (.pointer (some a_31) : Value) rfl (wanted_none rfl) rfl rfl (by kernel_rfl) (fun _ _ => by kernel_rfl) fun hS => ?_
      obtain ⟨t33_32, hx29, h⟩ := h
      refine t_add ⟨3, [6], fun wx => wx.cell? a_31 = some (.pointer t33_32)⟩ ?_
      replace hS := SF_on (x := ⟨3, [6], fun wx => wx.cell? a_31 = some (.pointer t33_32)⟩) hx29 hS
      refine t_v (s := Instr.loadAt 60 (.pointer (some a_31))) hp27 hS 3 (.pointer t33_32 : Value) rfl (wanted_none rfl) rfl rfl (by kernel_rfl) (by kernel_rfl) (fun _ hw => rn_load (by kernel_rfl) (Sw.fact (List.Mem.head _) rfl hw)) fun hS => ?_
      refine t_kw hp27 hS 4 (.pointer (some ((⟨w.heap.size, 0, none⟩ : Addr).add 3)) : Value) rfl (wanted_none rfl) rfl rfl (by kernel_rfl) (fun _ _ => by kernel_rfl) fun hS => ?_
      obtain ⟨t35_33, hx30, h⟩ := h
      refine t_add ⟨5, [6], fun wx => wx.cell? ((⟨w.heap.size, 0, none⟩ : Addr).add 3) = some (.int .i64 t35_33)⟩ ?_
      replace hS := SF_on (x := ⟨5, [6], fun wx => wx.cell? ((⟨w.heap.size, 0, none⟩ : Addr).add 3) = some (.int .i64 t35_33)⟩) hx30 hS
      refine t_v (s := Instr.loadAt 3 (.pointer (some ((⟨w.heap.size, 0, none⟩ : Addr).add 3)))) hp27 hS 5 (.int .i64 t35_33 : Value) rfl (wanted_none rfl) rfl rfl (by kernel_rfl) (by kernel_rfl) (fun _ hw => rn_load (by kernel_rfl) (Sw.fact (List.Mem.head _) rfl hw)) fun hS => ?_
      refine t_call 6 (by kernel_rfl) rfl (wanted_none rfl) rfl rfl (by kernel_rfl) (h.mono ?_)
      rintro _ w_34 ⟨rfl, h⟩
      refine ⟨_, rfl, (SF_off (by kernel_rfl) (by kernel_rfl) (SF_off (by kernel_rfl) (by kernel_rfl) SF_nil)), fun hS => ?_⟩
      refine t_done (by kernel_rfl) (hE27 _ _ ?_)
      refine y_then (hK26 _ _ ?_)
      obtain ⟨w_35, hwd31⟩ : ∃ wd : World, wd = w_34.drew := ⟨_, rfl⟩
      replace h := h _ hwd31
      refine t_region (wd := w_35) [] (by kernel_rfl) hwd31 SF_nil fun Q31 hE31 hp31 hS => ?_
      clear hwd31
      refine t_kw hp31 hS 0 (.pointer p0_1 : Value) rfl (wanted_none rfl) rfl rfl (by kernel_rfl) (fun _ _ => by kernel_rfl) fun hS => ?_
      obtain ⟨a_36, hx32, h⟩ := h
      refine t_kw hp31 hS 1 (.pointer (some a_36) : Value) rfl (wanted_none rfl) rfl rfl (by kernel_rfl) (fun _ _ => run_nilCheck hx32 rfl) fun hS => ?_
      refine t_kw hp31 hS 2 (.pointer (some (a_36.add 1)) : Value) rfl (wanted_none rfl) rfl rfl (by kernel_rfl) (fun _ _ => by kernel_rfl) fun hS => ?_
      obtain ⟨t40_37, hx33, h⟩ := h
      refine t_add ⟨3, [6], fun wx => wx.cell? (a_36.add 1) = some (.pointer t40_37)⟩ ?_
      replace hS := SF_on (x := ⟨3, [6], fun wx => wx.cell? (a_36.add 1) = some (.pointer t40_37)⟩) hx33 hS
      refine t_v (s := Instr.loadAt 62 (.pointer (some (a_36.add 1)))) hp31 hS 3 (.pointer t40_37 : Value) rfl (wanted_none rfl) rfl rfl (by kernel_rfl) (by kernel_rfl) (fun _ hw => rn_load (by kernel_rfl) (Sw.fact (List.Mem.head _) rfl hw)) fun hS => ?_
      refine t_kw hp31 hS 4 (.pointer (some ((⟨w.heap.size, 0, none⟩ : Addr).add 3)) : Value) rfl (wanted_none rfl) rfl rfl (by kernel_rfl) (fun _ _ => by kernel_rfl) fun hS => ?_
      obtain ⟨t42_38, hx34, h⟩ := h
      refine t_add ⟨5, [6], fun wx => wx.cell? ((⟨w.heap.size, 0, none⟩ : Addr).add 3) = some (.int .i64 t42_38)⟩ ?_
      replace hS := SF_on (x := ⟨5, [6], fun wx => wx.cell? ((⟨w.heap.size, 0, none⟩ : Addr).add 3) = some (.int .i64 t42_38)⟩) hx34 hS
      refine t_v (s := Instr.loadAt 3 (.pointer (some ((⟨w.heap.size, 0, none⟩ : Addr).add 3)))) hp31 hS 5 (.int .i64 t42_38 : Value) rfl (wanted_none rfl) rfl rfl (by kernel_rfl) (by kernel_rfl) (fun _ hw => rn_load (by kernel_rfl) (Sw.fact (List.Mem.head _) rfl hw)) fun hS => ?_
      refine t_call 6 (by kernel_rfl) rfl (wanted_none rfl) rfl rfl (by kernel_rfl) (h.mono ?_)
      rintro _ w_39 ⟨rfl, h⟩
      refine ⟨_, rfl, (SF_off (by kernel_rfl) (by kernel_rfl) (SF_off (by kernel_rfl) (by kernel_rfl) SF_nil)), fun hS => ?_⟩
      refine t_done (by kernel_rfl) (hE31 _ _ ?_)
      refine e_block_n ?_
      exact y_then (hjK2 _ w_39 rfl h)
    · replace h := h.2 (beq_eq_false_iff_ne.mp hb59)
      refine y_seq fun K35 hK35 => ?_
      refine y_region ?_
      refine y_k (.bool ((t7_7 == 2)) : Value) w_6 rfl rfl rfl (by kernel_rfl) ?_
      refine y_k (.bool ((t7_7 == 2)) : Value) w_6 rfl rfl rfl (by kernel_rfl) ?_
      refine y_nil ?_
      refine y_then (hK35 _ _ ?_)
      refine y_cond ((t7_7 == 2)) rfl rfl (fun hb58 => ?_) (fun hb58 => ?_)
      · replace h := h.1 (eq_of_beq hb58)
        refine y_seq fun K36 hK36 => ?_
        obtain ⟨w_40, hwd37⟩ : ∃ wd : World, wd = w_6.drew := ⟨_, rfl⟩
        replace h := h _ hwd37
        refine t_region (wd := w_40) [] (by kernel_rfl) hwd37 SF_nil fun Q37 hE37 hp37 hS => ?_
        clear hwd37
        refine t_kw hp37 hS 0 (.pointer p0_1 : Value) rfl (wanted_none rfl) rfl rfl (by kernel_rfl) (fun _ _ => by kernel_rfl) fun hS => ?_
        obtain ⟨a_41, hx38, h⟩ := h
        refine t_kw hp37 hS 1 (.pointer (some a_41) : Value) rfl (wanted_none rfl) rfl rfl (by kernel_rfl) (fun _ _ => run_nilCheck hx38 rfl) fun hS => ?_
        refine t_kw hp37 hS 2 (.pointer (some a_41) : Value) rfl (wanted_none rfl) rfl rfl (by kernel_rfl) (fun _ _ => by kernel_rfl) fun hS => ?_
        obtain ⟨t49_42, hx39, h⟩ := h
        refine t_add ⟨3, [8], fun wx => wx.cell? a_41 = some (.pointer t49_42)⟩ ?_
        replace hS := SF_on (x := ⟨3, [8], fun wx => wx.cell? a_41 = some (.pointer t49_42)⟩) hx39 hS
        refine t_v (s := Instr.loadAt 60 (.pointer (some a_41))) hp37 hS 3 (.pointer t49_42 : Value) rfl (wanted_none rfl) rfl rfl (by kernel_rfl) (by kernel_rfl) (fun _ hw => rn_load (by kernel_rfl) (Sw.fact (List.Mem.head _) rfl hw)) fun hS => ?_
        refine t_kw hp37 hS 4 (.pointer p0_1 : Value) rfl (wanted_none rfl) rfl rfl (by kernel_rfl) (fun _ _ => by kernel_rfl) fun hS => ?_
        obtain ⟨a_43, hx40, h⟩ := h
        refine t_kw hp37 hS 5 (.pointer (some a_43) : Value) rfl (wanted_none rfl) rfl rfl (by kernel_rfl) (fun _ _ => run_nilCheck hx40 rfl) fun hS => ?_
        refine t_kw hp37 hS 6 (.pointer (some (a_43.add 4)) : Value) rfl (wanted_none rfl) rfl rfl (by kernel_rfl) (fun _ _ => by kernel_rfl) fun hS => ?_
        obtain ⟨t53_44, hx41, h⟩ := h
        refine t_add ⟨7, [8], fun wx => wx.cell? (a_43.add 4) = some (.int .i64 t53_44)⟩ ?_
        replace hS := SF_on (x := ⟨7, [8], fun wx => wx.cell? (a_43.add 4) = some (.int .i64 t53_44)⟩) hx41 hS
        refine t_v (s := Instr.loadAt 3 (.pointer (some (a_43.add 4)))) hp37 hS 7 (.int .i64 t53_44 : Value) rfl (wanted_none rfl) rfl rfl (by kernel_rfl) (by kernel_rfl) (fun _ hw => rn_load (by kernel_rfl) (Sw.fact (List.Mem.head _) rfl hw)) fun hS => ?_
        refine t_call 8 (by kernel_rfl) rfl (wanted_none rfl) rfl rfl (by kernel_rfl) (h.mono ?_)
        rintro _ w_45 ⟨rfl, h⟩
        refine ⟨_, rfl, (SF_off (by kernel_rfl) (by kernel_rfl) (SF_off (by kernel_rfl) (by kernel_rfl) SF_nil)), fun hS => ?_⟩
        refine t_done (by kernel_rfl) (hE37 _ _ ?_)
        refine y_then (hK36 _ _ ?_)
        refine y_seq fun K42 hK42 => ?_
        obtain ⟨w_46, hwd43⟩ : ∃ wd : World, wd = w_45.drew := ⟨_, rfl⟩
        replace h := h _ hwd43
        refine t_region (wd := w_46) [] (by kernel_rfl) hwd43 SF_nil fun Q43 hE43 hp43 hS => ?_
        clear hwd43
        refine t_kw hp43 hS 0 (.pointer p0_1 : Value) rfl (wanted_none rfl) rfl rfl (by kernel_rfl) (fun _ _ => by kernel_rfl) fun hS => ?_
        obtain ⟨a_47, hx44, h⟩ := h
        refine t_kw hp43 hS 1 (.pointer (some a_47) : Value) rfl (wanted_none rfl) rfl rfl (by kernel_rfl) (fun _ _ => run_nilCheck hx44 rfl) fun hS => ?_
        refine t_kw hp43 hS 2 (.pointer (some (a_47.add 1)) : Value) rfl (wanted_none rfl) rfl rfl (by kernel_rfl) (fun _ _ => by kernel_rfl) fun hS => ?_
        obtain ⟨t58_48, hx45, h⟩ := h
        refine t_add ⟨3, [8], fun wx => wx.cell? (a_47.add 1) = some (.pointer t58_48)⟩ ?_
        replace hS := SF_on (x := ⟨3, [8], fun wx => wx.cell? (a_47.add 1) = some (.pointer t58_48)⟩) hx45 hS
        refine t_v (s := Instr.loadAt 62 (.pointer (some (a_47.add 1)))) hp43 hS 3 (.pointer t58_48 : Value) rfl (wanted_none rfl) rfl rfl (by kernel_rfl) (by kernel_rfl) (fun _ hw => rn_load (by kernel_rfl) (Sw.fact (List.Mem.head _) rfl hw)) fun hS => ?_
        refine t_kw hp43 hS 4 (.pointer p0_1 : Value) rfl (wanted_none rfl) rfl rfl (by kernel_rfl) (fun _ _ => by kernel_rfl) fun hS => ?_
        obtain ⟨a_49, hx46, h⟩ := h
        refine t_kw hp43 hS 5 (.pointer (some a_49) : Value) rfl (wanted_none rfl) rfl rfl (by kernel_rfl) (fun _ _ => run_nilCheck hx46 rfl) fun hS => ?_
        refine t_kw hp43 hS 6 (.pointer (some (a_49.add 4)) : Value) rfl (wanted_none rfl) rfl rfl (by kernel_rfl) (fun _ _ => by kernel_rfl) fun hS => ?_
        obtain ⟨t62_50, hx47, h⟩ := h
        refine t_add ⟨7, [8], fun wx => wx.cell? (a_49.add 4) = some (.int .i64 t62_50)⟩ ?_
        replace hS := SF_on (x := ⟨7, [8], fun wx => wx.cell? (a_49.add 4) = some (.int .i64 t62_50)⟩) hx47 hS
        refine t_v (s := Instr.loadAt 3 (.pointer (some (a_49.add 4)))) hp43 hS 7 (.int .i64 t62_50 : Value) rfl (wanted_none rfl) rfl rfl (by kernel_rfl) (by kernel_rfl) (fun _ hw => rn_load (by kernel_rfl) (Sw.fact (List.Mem.head _) rfl hw)) fun hS => ?_
        refine t_call 8 (by kernel_rfl) rfl (wanted_none rfl) rfl rfl (by kernel_rfl) (h.mono ?_)
        rintro _ w_51 ⟨rfl, h⟩
        refine ⟨_, rfl, (SF_off (by kernel_rfl) (by kernel_rfl) (SF_off (by kernel_rfl) (by kernel_rfl) SF_nil)), fun hS => ?_⟩
        refine t_done (by kernel_rfl) (hE43 _ _ ?_)
        refine y_then (hK42 _ _ ?_)
        refine y_region ?_
        refine y_k (.pointer p0_1 : Value) w_51 rfl rfl rfl (by kernel_rfl) ?_
        refine y_k (.pointer p0_1 : Value) w_51 rfl rfl rfl (by kernel_rfl) ?_
        obtain ⟨a_52, hx48, h⟩ := h
        refine y_k (.pointer (some a_52) : Value) w_51 rfl rfl rfl (run_nilCheck hx48 rfl) ?_
        refine y_k (.pointer (some (a_52.add 1)) : Value) w_51 rfl rfl rfl (by kernel_rfl) ?_
        obtain ⟨t68_53, hx49, h⟩ := h
        refine y_v (s := Instr.loadAt 62 (.pointer (some (a_52.add 1)))) rfl rfl rfl (by kernel_rfl) (rn_load (by kernel_rfl) hx49) ?_
        refine y_call rfl rfl rfl (by kernel_rfl) (h.mono ?_)
        rintro _ w_55 ⟨t69_54, rfl, h⟩
        refine ⟨_, rfl, ?_⟩
        obtain ⟨a_56, hx50, h⟩ := h
        refine y_k (.pointer (some a_56) : Value) w_55 rfl rfl rfl (run_nilCheck hx50 rfl) ?_
        refine y_k (.pointer (some (a_56.add 4)) : Value) w_55 rfl rfl rfl (by kernel_rfl) ?_
        obtain ⟨hx51, h⟩ := h
        replace h := h _ rfl
        refine y_u (s := Instr.storeAt 3 (.pointer (some (a_56.add 4))) (.int .i64 t69_54 : Value)) rfl rfl (by kernel_rfl) (rn_store1 (by kernel_rfl) rfl hx51) ?_
        generalize w_55.setCell (a_56.add 4) (.int .i64 t69_54 : Value) = w_57 at h ⊢
        refine y_nil ?_
        refine e_block_n ?_
        exact y_then (hjK2 _ w_57 rfl h)
      · replace h := h.2 (beq_eq_false_iff_ne.mp hb58)
        refine y_seq fun K52 hK52 => ?_
        refine y_region ?_
        refine y_k (.bool ((t7_7 == 3)) : Value) w_6 rfl rfl rfl (by kernel_rfl) ?_
        refine y_k (.bool ((t7_7 == 3)) : Value) w_6 rfl rfl rfl (by kernel_rfl) ?_
        refine y_nil ?_
        refine y_then (hK52 _ _ ?_)
        refine y_cond ((t7_7 == 3)) rfl rfl (fun hb57 => ?_) (fun hb57 => ?_)
        · replace h := h.1 (eq_of_beq hb57)
          refine y_seq fun K53 hK53 => ?_
          refine y_region ?_
          refine y_k (.pointer p0_1 : Value) w_6 rfl rfl rfl (by kernel_rfl) ?_
          refine y_call rfl rfl rfl (by kernel_rfl) (h.mono ?_)
          rintro _ w_59 ⟨t75_58, rfl, h⟩
          refine ⟨_, rfl, ?_⟩
          refine y_k (.bool t75_58 : Value) w_59 rfl rfl rfl (by kernel_rfl) ?_
          refine y_nil ?_
          refine y_then (hK53 _ _ ?_)
          refine y_seq fun K54 hK54 => ?_
          refine y_region ?_
          refine y_k (.bool t75_58 : Value) w_59 rfl rfl rfl (by kernel_rfl) ?_
          refine y_k (.bool (!(t75_58)) : Value) w_59 rfl rfl rfl (by kernel_rfl) ?_
          refine y_nil ?_
          refine y_then (hK54 _ _ ?_)
          refine y_cond (!(t75_58)) rfl rfl (fun hb56 => ?_) (fun hb56 => ?_)
          · replace h := h.1 ((not_true_of hb56))
            refine y_seq fun K55 hK55 => ?_
            refine y_region ?_
            refine y_k (.bool false : Value) w_59 rfl rfl rfl (by kernel_rfl) ?_
            refine y_nil ?_
            refine y_then (hK55 _ _ ?_)
            refine y_ret ?_
            repeat (first | refine e_then_r ?_ | refine e_block_r ?_)
            exact (hQ0 _ _ _ (res1 (v := (.bool false : Value)) rfl rfl rfl) ⟨_, rfl, h⟩).1
          · replace h := h.2 ((not_false_of hb56))
            refine y_skip ?_
            refine e_block_n ?_
            exact y_then (hjK2 _ w_59 rfl h)
        · replace h := h.2 (beq_eq_false_iff_ne.mp hb57)
          refine y_skip ?_
          refine e_block_n ?_
          exact y_then (hjK2 _ w_6 rfl h)

def F36_l3 (p0_1 : Option Addr) (K : Bool → World → Prop) (t18_8 : Sl) (t24_14 : ByteArray) (next62 : (Sl × Int) → World → Prop) : (Sl × Int) → World → Prop := fun (l3_38, i8_39) w_40 =>
  ((i8_39 < 9 →
  ∃ (a_41 : Addr), p0_1 = some a_41 ∧
  ∃ (t84_42 : Int), w_40.cell? (a_41.add 3) = some (.int .u8 t84_42) ∧
  ∀ (w_43 : World), w_43 = w_40.alloc (.cells #[.int .u8 t84_42] 5) →
  ∃ (t86_44 : Sl), ∃ (w_45 : World), (Builtin.append_ #[22, 22] 22 #[.slice l3_38.a l3_38.n l3_38.c, .slice (some ⟨w_40.heap.size, 0, none⟩) 1 1]).run Try.prog w_43 = .ok (.slice t86_44.a t86_44.n t86_44.c : Value) w_45 ∧
  next62 (t86_44, IntKind.i64.wrap (i8_39 + 1)) w_45) ∧
  (¬ (i8_39 < 9) →
  ∃ (a_46 : Addr), p0_1 = some a_46 ∧
  HasCell w_40 (a_46.add 2) ∧ ∀ (w_47 : World), w_47 = w_40.setCell (a_46.add 2) (.slice l3_38.a l3_38.n l3_38.c : Value) →
  ∃ (t92_48 : ByteArray), (convert 22 9 (.slice t18_8.a t18_8.n t18_8.c : Value)).run Try.prog w_47 = .ok (.string t92_48 : Value) w_47 ∧
  K ((t92_48.toList == t24_14.toList)) w_47))
def F36_l2 (p0_1 : Option Addr) (K : Bool → World → Prop) (t13_4 : Sl) (t18_8 : Sl) (t24_14 : ByteArray) (next49 : (Int) → World → Prop) : (Int) → World → Prop := fun (i7_32) w_33 =>
  ((i7_32 < ((t13_4.n : Int)) →
  ∃ (a_34 : Addr), p0_1 = some a_34 ∧
  ∃ (t74_35 : Int), w_33.cell? (a_34.add 3) = some (.int .u8 t74_35) ∧
  (0 : Int) ≤ i7_32 ∧ i7_32 < (t13_4.n : Int) ∧ ∃ (a_36 : Addr), t13_4.a = some a_36 ∧
  HasCell w_33 (a_36.add (Int.toNat i7_32)) ∧ ∀ (w_37 : World), w_37 = w_33.setCell (a_36.add (Int.toNat i7_32)) (.int .u8 t74_35 : Value) →
  next49 (IntKind.i64.wrap (i7_32 + 1)) w_37) ∧
  (¬ (i7_32 < ((t13_4.n : Int))) →
  kLoop (F36_l3 p0_1 K t18_8 t24_14) (t13_4, 0) w_33))
def F36_l1 (p0_1 : Option Addr) (K : Bool → World → Prop) (t13_4 : Sl) (t18_8 : Sl) (t24_14 : ByteArray) (next22 : (Int) → World → Prop) : (Int) → World → Prop := fun (i6_17) w_18 =>
  ∃ (a_19 : Addr), p0_1 = some a_19 ∧
  ∃ (t39_20 : Sl), w_18.cell? (a_19.add 2) = some (.slice t39_20.a t39_20.n t39_20.c) ∧
  ((i6_17 < ((t39_20.n : Int)) →
  ∃ (a_21 : Addr), p0_1 = some a_21 ∧
  ∃ (t47_22 : Sl), w_18.cell? (a_21.add 2) = some (.slice t47_22.a t47_22.n t47_22.c) ∧
  (0 : Int) ≤ i6_17 ∧ i6_17 < (t47_22.n : Int) ∧ ∃ (a_23 : Addr), t47_22.a = some a_23 ∧
  ∃ (t50_24 : Int), w_18.cell? (a_23.add (Int.toNat i6_17)) = some (.int .u8 t50_24) ∧
  ∃ (a_25 : Addr), p0_1 = some a_25 ∧
  ∃ (t54_26 : Int), w_18.cell? (a_25.add 3) = some (.int .u8 t54_26) ∧
  ∀ (w_27 : World), (∃ m, w_27 = w_18.drewN m) →
  ((¬ t50_24 = t54_26 →
  K false w_27) ∧
  (t50_24 = t54_26 →
  next22 (IntKind.i64.wrap (i6_17 + 1)) w_27))) ∧
  (¬ (i6_17 < ((t39_20.n : Int))) →
  ∃ (a_28 : Addr), p0_1 = some a_28 ∧
  ∃ (t59_29 : Int), w_18.cell? (a_28.add 3) = some (.int .u8 t59_29) ∧
  ∃ (a_30 : Addr), p0_1 = some a_30 ∧
  HasCell w_18 (a_30.add 3) ∧ ∀ (w_31 : World), w_31 = w_18.setCell (a_30.add 3) (.int .u8 (IntKind.u8.wrap (t59_29 + 1)) : Value) →
  kLoop (F36_l2 p0_1 K t13_4 t18_8 t24_14) (0) w_31))
/-- (*turnkey/turnkeylaw03.pair).bytes -/
def F36 (p0_1 : Option Addr) (K : Bool → World → Prop) (w : World) : Prop :=
  ∃ (a_2 : Addr), p0_1 = some a_2 ∧
  ∃ (t12_3 : Option Addr), w.cell? a_2 = some (.pointer t12_3) ∧
  Calls Try.prog 46 #[.pointer t12_3] w fun e w_5 => ∃ (t13_4 : Sl), e = .returned (.slice t13_4.a t13_4.n t13_4.c : Value) ∧
  ∃ (a_6 : Addr), p0_1 = some a_6 ∧
  ∃ (t17_7 : Option Addr), w_5.cell? a_6 = some (.pointer t17_7) ∧
  Calls Try.prog 46 #[.pointer t17_7] w_5 fun e w_9 => ∃ (t18_8 : Sl), e = .returned (.slice t18_8.a t18_8.n t18_8.c : Value) ∧
  ∃ (a_10 : Addr), p0_1 = some a_10 ∧
  ∃ (t22_11 : Option Addr), w_9.cell? (a_10.add 1) = some (.pointer t22_11) ∧
  Calls Try.prog 61 #[.pointer t22_11] w_9 fun e w_13 => ∃ (t23_12 : Sl), e = .returned (.slice t23_12.a t23_12.n t23_12.c : Value) ∧
  ∃ (t24_14 : ByteArray), (convert 22 9 (.slice t23_12.a t23_12.n t23_12.c : Value)).run Try.prog w_13 = .ok (.string t24_14 : Value) w_13 ∧
  ∃ (t26_15 : ByteArray), (convert 22 9 (.slice t13_4.a t13_4.n t13_4.c : Value)).run Try.prog w_13 = .ok (.string t26_15 : Value) w_13 ∧
  ((¬ t26_15.toList = t24_14.toList →
  K false w_13) ∧
  (t26_15.toList = t24_14.toList →
  ∃ (t31_16 : ByteArray), (convert 22 9 (.slice t18_8.a t18_8.n t18_8.c : Value)).run Try.prog w_13 = .ok (.string t31_16 : Value) w_13 ∧
  ((¬ t31_16.toList = t24_14.toList →
  K false w_13) ∧
  (t31_16.toList = t24_14.toList →
  kLoop (F36_l1 p0_1 K t13_4 t18_8 t24_14) (0) w_13))))
set_option maxHeartbeats 4000000 in
set_option maxRecDepth 20000 in
theorem F36_sound (p0_1 : Option Addr) (K : Bool → World → Prop) (w : World) (h : F36 p0_1 K w) :
    Calls Try.prog 36 #[.pointer p0_1] w (fun e w1 => ∃ (r0 : Bool), e = .returned (.bool r0 : Value) ∧ K r0 w1) := by
  unfold F36 at h
  refine y_enter (n := 95) (args := [.pointer p0_1]) Try.func36 rfl rfl rfl fun Q0 hQ0 => ?_
  refine y_seq fun K1 hK1 => ?_
  refine y_region ?_
  refine y_k (.bool false : Value) w rfl rfl rfl (by kernel_rfl) ?_
  refine y_nil ?_
  refine y_then (hK1 _ _ ?_)
  refine y_seq fun K2 hK2 => ?_
  refine y_region ?_
  refine y_k (.pointer p0_1 : Value) w rfl rfl rfl (by kernel_rfl) ?_
  obtain ⟨a_2, hx3, h⟩ := h
  refine y_k (.pointer (some a_2) : Value) w rfl rfl rfl (run_nilCheck hx3 rfl) ?_
  refine y_k (.pointer (some a_2) : Value) w rfl rfl rfl (by kernel_rfl) ?_
  obtain ⟨t12_3, hx4, h⟩ := h
  refine y_v (s := Instr.loadAt 60 (.pointer (some a_2))) rfl rfl rfl (by kernel_rfl) (rn_load (by kernel_rfl) hx4) ?_
  refine y_call rfl rfl rfl (by kernel_rfl) (h.mono ?_)
  rintro _ w_5 ⟨t13_4, rfl, h⟩
  refine ⟨_, rfl, ?_⟩
  refine y_k (.slice t13_4.a t13_4.n t13_4.c : Value) w_5 rfl rfl rfl (by kernel_rfl) ?_
  refine y_nil ?_
  refine y_then (hK2 _ _ ?_)
  refine y_seq fun K5 hK5 => ?_
  refine y_region ?_
  refine y_k (.pointer p0_1 : Value) w_5 rfl rfl rfl (by kernel_rfl) ?_
  obtain ⟨a_6, hx6, h⟩ := h
  refine y_k (.pointer (some a_6) : Value) w_5 rfl rfl rfl (run_nilCheck hx6 rfl) ?_
  refine y_k (.pointer (some a_6) : Value) w_5 rfl rfl rfl (by kernel_rfl) ?_
  obtain ⟨t17_7, hx7, h⟩ := h
  refine y_v (s := Instr.loadAt 60 (.pointer (some a_6))) rfl rfl rfl (by kernel_rfl) (rn_load (by kernel_rfl) hx7) ?_
  refine y_call rfl rfl rfl (by kernel_rfl) (h.mono ?_)
  rintro _ w_9 ⟨t18_8, rfl, h⟩
  refine ⟨_, rfl, ?_⟩
  refine y_k (.slice t18_8.a t18_8.n t18_8.c : Value) w_9 rfl rfl rfl (by kernel_rfl) ?_
  refine y_nil ?_
  refine y_then (hK5 _ _ ?_)
  refine y_seq fun K8 hK8 => ?_
  refine y_region ?_
  refine y_k (.pointer p0_1 : Value) w_9 rfl rfl rfl (by kernel_rfl) ?_
  obtain ⟨a_10, hx9, h⟩ := h
  refine y_k (.pointer (some a_10) : Value) w_9 rfl rfl rfl (run_nilCheck hx9 rfl) ?_
  refine y_k (.pointer (some (a_10.add 1)) : Value) w_9 rfl rfl rfl (by kernel_rfl) ?_
  obtain ⟨t22_11, hx10, h⟩ := h
  refine y_v (s := Instr.loadAt 62 (.pointer (some (a_10.add 1)))) rfl rfl rfl (by kernel_rfl) (rn_load (by kernel_rfl) hx10) ?_
  refine y_call rfl rfl rfl (by kernel_rfl) (h.mono ?_)
  rintro _ w_13 ⟨t23_12, rfl, h⟩
  refine ⟨_, rfl, ?_⟩
  obtain ⟨t24_14, hx11, h⟩ := h
  refine y_v (s := convert 22 9 (.slice t23_12.a t23_12.n t23_12.c : Value)) rfl rfl rfl (by kernel_rfl) (hx11) ?_
  refine y_k (.string t24_14 : Value) w_13 rfl rfl rfl (by kernel_rfl) ?_
  refine y_nil ?_
  refine y_then (hK8 _ _ ?_)
  refine y_seq fun K12 hK12 => ?_
  refine y_seq fun K13 hK13 => ?_
  refine y_region ?_
  refine y_k (.slice t13_4.a t13_4.n t13_4.c : Value) w_13 rfl rfl rfl (by kernel_rfl) ?_
  obtain ⟨t26_15, hx14, h⟩ := h
  refine y_v (s := convert 22 9 (.slice t13_4.a t13_4.n t13_4.c : Value)) rfl rfl rfl (by kernel_rfl) (hx14) ?_
  refine y_k (.string t24_14 : Value) w_13 rfl rfl rfl (by kernel_rfl) ?_
  refine y_k (.bool (!((t26_15.toList == t24_14.toList))) : Value) w_13 rfl rfl rfl (by kernel_rfl) ?_
  refine y_k (.bool (!((t26_15.toList == t24_14.toList))) : Value) w_13 rfl rfl rfl (by kernel_rfl) ?_
  refine y_fork (!((t26_15.toList == t24_14.toList))) (fun hb15 => ?_) (fun hb15 => ?_)
  · replace h := h.1 (beq_eq_false_iff_ne.mp (not_true_of hb15))
    refine y_frame (upd_id (i := 29) (v := .bool true) rfl (congrArg Value.bool hb15)) ?_
    refine y_gno rfl rfl rfl rfl ?_
    refine y_gno rfl rfl rfl rfl ?_
    refine y_gno rfl rfl rfl rfl ?_
    refine y_gno rfl rfl rfl rfl ?_
    refine y_k (.bool true : Value) w_13 rfl rfl rfl (by kernel_rfl) ?_
    refine y_nil ?_
    refine y_then (hK13 _ _ ?_)
    refine y_cond_t rfl rfl ?_
    refine y_seq fun K16 hK16 => ?_
    refine y_region ?_
    refine y_k (.bool false : Value) w_13 rfl rfl rfl (by kernel_rfl) ?_
    refine y_nil ?_
    refine y_then (hK16 _ _ ?_)
    refine y_ret ?_
    repeat (first | refine e_then_r ?_ | refine e_block_r ?_)
    exact (hQ0 _ _ _ (res1 (v := (.bool false : Value)) rfl rfl rfl) ⟨_, rfl, h⟩).1
  · replace h := h.2 (eq_of_beq (not_false_of hb15))
    refine y_frame (upd_id (i := 29) (v := .bool false) rfl (congrArg Value.bool hb15)) ?_
    refine y_gyes rfl rfl rfl ?_
    refine y_k (.slice t18_8.a t18_8.n t18_8.c : Value) w_13 rfl rfl rfl (by kernel_rfl) ?_
    refine y_gyes rfl rfl rfl ?_
    obtain ⟨t31_16, hx17, h⟩ := h
    refine y_v (s := convert 22 9 (.slice t18_8.a t18_8.n t18_8.c : Value)) rfl rfl rfl (by kernel_rfl) (hx17) ?_
    refine y_gyes rfl rfl rfl ?_
    refine y_k (.string t24_14 : Value) w_13 rfl rfl rfl (by kernel_rfl) ?_
    refine y_gyes rfl rfl rfl ?_
    refine y_k (.bool (!((t31_16.toList == t24_14.toList))) : Value) w_13 rfl rfl rfl (by kernel_rfl) ?_
    refine y_k (.bool (!((t31_16.toList == t24_14.toList))) : Value) w_13 rfl rfl rfl (by kernel_rfl) ?_
    refine y_nil ?_
    refine y_then (hK13 _ _ ?_)
    refine y_cond (!((t31_16.toList == t24_14.toList))) rfl rfl (fun hb79 => ?_) (fun hb79 => ?_)
    · replace h := h.1 (beq_eq_false_iff_ne.mp (not_true_of hb79))
      refine y_seq fun K18 hK18 => ?_
      refine y_region ?_
      refine y_k (.bool false : Value) w_13 rfl rfl rfl (by kernel_rfl) ?_
      refine y_nil ?_
      refine y_then (hK18 _ _ ?_)
      refine y_ret ?_
      repeat (first | refine e_then_r ?_ | refine e_block_r ?_)
      exact (hQ0 _ _ _ (res1 (v := (.bool false : Value)) rfl rfl rfl) ⟨_, rfl, h⟩).1
    · replace h := h.2 (eq_of_beq (not_false_of hb79))
      refine y_skip ?_
      refine y_then (hK12 _ _ ?_)
      refine y_seq fun K19 hK19 => ?_
      refine y_seq fun K20 hK20 => ?_
      refine y_region ?_
      refine y_k (.int .i64 0 : Value) w_13 rfl rfl rfl (by kernel_rfl) ?_
      refine y_nil ?_
      refine y_then (hK20 _ _ ?_)
      refine y_block ?_
      refine y_loop (S := Int) (fun s j => match s with | (i6_17) => upd (upd (upd (upd (upd (j) 0 (.pointer p0_1 : Value)) 3 (.slice t13_4.a t13_4.n t13_4.c : Value)) 4 (.slice t18_8.a t18_8.n t18_8.c : Value)) 5 (.string t24_14 : Value)) 6 (.int .i64 i6_17 : Value)) (0) ?_ h ?_
      · dsimp only
        refine upd_id ?_ rfl
        refine upd_id ?_ rfl
        refine upd_id ?_ rfl
        refine upd_id ?_ rfl
        refine upd_id ?_ rfl
        rfl
      rintro KN23 next22 hN23 i6_17 j w_18 h
      unfold F36_l1 at h
      refine y_seq fun K24 hK24 => ?_
      refine y_seq fun K25 hK25 => ?_
      refine y_region ?_
      refine y_k (.int .i64 i6_17 : Value) w_18 rfl rfl rfl (by kernel_rfl) ?_
      refine y_k (.pointer p0_1 : Value) w_18 rfl rfl rfl (by kernel_rfl) ?_
      obtain ⟨a_19, hx26, h⟩ := h
      refine y_k (.pointer (some a_19) : Value) w_18 rfl rfl rfl (run_nilCheck hx26 rfl) ?_
      refine y_k (.pointer (some (a_19.add 2)) : Value) w_18 rfl rfl rfl (by kernel_rfl) ?_
      obtain ⟨t39_20, hx27, h⟩ := h
      refine y_v (s := Instr.loadAt 22 (.pointer (some (a_19.add 2)))) rfl rfl rfl (by kernel_rfl) (rn_load (by kernel_rfl) hx27) ?_
      refine y_k (.int .i64 ((t39_20.n : Int)) : Value) w_18 rfl rfl rfl (by kernel_rfl) ?_
      refine y_k (.bool (decide (i6_17 < ((t39_20.n : Int)))) : Value) w_18 rfl rfl rfl (by kernel_rfl) ?_
      refine y_nil ?_
      refine y_then (hK25 _ _ ?_)
      refine y_cond (decide (i6_17 < ((t39_20.n : Int)))) rfl rfl (fun hb78 => ?_) (fun hb78 => ?_)
      · replace h := h.1 (of_decide_eq_true hb78)
        refine y_skip ?_
        refine y_then (hK24 _ _ ?_)
        refine y_seq fun K28 hK28 => ?_
        refine y_block ?_
        refine y_seq fun K30 hK30 => ?_
        refine q_region (by kernel_rfl) (by kernel_rfl) fun Qq31 hQq31 => ?_
        refine q_k (.pointer p0_1 : Value) rfl rfl rfl (fun _ => by kernel_rfl) ?_
        obtain ⟨a_21, hx32, h⟩ := h
        refine q_k (.pointer (some a_21) : Value) rfl rfl rfl (fun _ => run_nilCheck hx32 rfl) ?_
        refine q_k (.pointer (some (a_21.add 2)) : Value) rfl rfl rfl (fun _ => by kernel_rfl) ?_
        obtain ⟨t47_22, hx33, h⟩ := h
        refine q_v (v := (.slice t47_22.a t47_22.n t47_22.c : Value)) (s := Instr.loadAt 22 (.pointer (some (a_21.add 2)))) rfl rfl rfl (by kernel_rfl) (fun _ => rn_load (by kernel_rfl) hx33) ?_
        refine q_k (.int .i64 i6_17 : Value) rfl rfl rfl (fun _ => by kernel_rfl) ?_
        obtain ⟨hx34a, hx34b, a_23, hx34, h⟩ := h
        refine q_v (v := (.pointer (some (a_23.add (Int.toNat i6_17))) : Value)) (s := Instr.indexAt 22 (.slice t47_22.a t47_22.n t47_22.c : Value) (.int .i64 i6_17 : Value)) rfl rfl rfl (by kernel_rfl) (fun _ => run_ixs1 (el := 5) (by kernel_rfl) (by kernel_rfl) hx34 hx34a hx34b) ?_
        obtain ⟨t50_24, hx35, h⟩ := h
        refine q_v (v := (.int .u8 t50_24 : Value)) (s := Instr.loadAt 5 (.pointer (some (a_23.add (Int.toNat i6_17))))) rfl rfl rfl (by kernel_rfl) (fun _ => rn_load (by kernel_rfl) hx35) ?_
        refine q_k (.pointer p0_1 : Value) rfl rfl rfl (fun _ => by kernel_rfl) ?_
        obtain ⟨a_25, hx36, h⟩ := h
        refine q_k (.pointer (some a_25) : Value) rfl rfl rfl (fun _ => run_nilCheck hx36 rfl) ?_
        refine q_k (.pointer (some (a_25.add 3)) : Value) rfl rfl rfl (fun _ => by kernel_rfl) ?_
        obtain ⟨t54_26, hx37, h⟩ := h
        refine q_v (v := (.int .u8 t54_26 : Value)) (s := Instr.loadAt 5 (.pointer (some (a_25.add 3)))) rfl rfl rfl (by kernel_rfl) (fun _ => rn_load (by kernel_rfl) hx37) ?_
        refine q_k (.bool ((t50_24 != t54_26)) : Value) rfl rfl rfl (fun _ => by kernel_rfl) ?_
        refine q_nil (hQq31 _ fun m40 => ?_)
        replace h := h _ ⟨m40, rfl⟩
        generalize w_18.drewN m40 = w_27 at h ⊢
        refine y_then (hK30 _ _ ?_)
        refine y_cond ((t50_24 != t54_26)) rfl rfl (fun hb39 => ?_) (fun hb39 => ?_)
        · replace h := h.1 (bne_iff_ne.mp hb39)
          refine y_seq fun K38 hK38 => ?_
          refine y_region ?_
          refine y_k (.bool false : Value) w_27 rfl rfl rfl (by kernel_rfl) ?_
          refine y_nil ?_
          refine y_then (hK38 _ _ ?_)
          refine y_ret ?_
          repeat (first | refine e_then_r ?_ | refine e_block_r ?_)
          exact (hQ0 _ _ _ (res1 (v := (.bool false : Value)) rfl rfl rfl) ⟨_, rfl, h⟩).1
        · replace h := h.2 (bne_eq_false_iff_eq.mp hb39)
          refine y_skip ?_
          refine e_block_n ?_
          refine y_then (hK28 _ _ ?_)
          refine y_region ?_
          refine y_k (.int .i64 i6_17 : Value) w_27 rfl rfl rfl (by kernel_rfl) ?_
          refine y_k (.int .i64 (IntKind.i64.wrap (i6_17 + 1)) : Value) w_27 rfl rfl rfl (by kernel_rfl) ?_
          refine y_k (.int .i64 (IntKind.i64.wrap (i6_17 + 1)) : Value) w_27 rfl rfl rfl (by kernel_rfl) ?_
          refine y_nil ?_
          refine y_then (hN23 (IntKind.i64.wrap (i6_17 + 1)) _ _ h ?_)
          dsimp only
          refine upd_id ?_ rfl
          refine upd_id ?_ rfl
          refine upd_id ?_ rfl
          refine upd_id ?_ rfl
          refine upd_id ?_ rfl
          rfl
      · replace h := h.2 (of_decide_eq_false hb78)
        refine y_exit ?_
        repeat (first | refine e_then_x ?_ | refine e_block_y rfl ?_)
        refine e_block_x ?_
        refine y_then (hK19 _ _ ?_)
        refine y_seq fun K41 hK41 => ?_
        refine y_region ?_
        refine y_k (.pointer p0_1 : Value) w_18 rfl rfl rfl (by kernel_rfl) ?_
        obtain ⟨a_28, hx42, h⟩ := h
        refine y_k (.pointer (some a_28) : Value) w_18 rfl rfl rfl (run_nilCheck hx42 rfl) ?_
        refine y_k (.pointer (some (a_28.add 3)) : Value) w_18 rfl rfl rfl (by kernel_rfl) ?_
        obtain ⟨t59_29, hx43, h⟩ := h
        refine y_v (s := Instr.loadAt 5 (.pointer (some (a_28.add 3)))) rfl rfl rfl (by kernel_rfl) (rn_load (by kernel_rfl) hx43) ?_
        refine y_k (.int .u8 (IntKind.u8.wrap (t59_29 + 1)) : Value) w_18 rfl rfl rfl (by kernel_rfl) ?_
        obtain ⟨a_30, hx44, h⟩ := h
        refine y_k (.pointer (some a_30) : Value) w_18 rfl rfl rfl (run_nilCheck hx44 rfl) ?_
        refine y_k (.pointer (some (a_30.add 3)) : Value) w_18 rfl rfl rfl (by kernel_rfl) ?_
        obtain ⟨hx45, h⟩ := h
        replace h := h _ rfl
        refine y_u (s := Instr.storeAt 5 (.pointer (some (a_30.add 3))) (.int .u8 (IntKind.u8.wrap (t59_29 + 1)) : Value)) rfl rfl (by kernel_rfl) (rn_store1 (by kernel_rfl) rfl hx45) ?_
        generalize w_18.setCell (a_30.add 3) (.int .u8 (IntKind.u8.wrap (t59_29 + 1)) : Value) = w_31 at h ⊢
        refine y_nil ?_
        refine y_then (hK41 _ _ ?_)
        refine y_seq fun K46 hK46 => ?_
        refine y_seq fun K47 hK47 => ?_
        refine y_region ?_
        refine y_k (.int .i64 0 : Value) w_31 rfl rfl rfl (by kernel_rfl) ?_
        refine y_nil ?_
        refine y_then (hK47 _ _ ?_)
        refine y_block ?_
        refine y_loop (S := Int) (fun s j => match s with | (i7_32) => upd (upd (upd (upd (upd (j) 0 (.pointer p0_1 : Value)) 3 (.slice t13_4.a t13_4.n t13_4.c : Value)) 4 (.slice t18_8.a t18_8.n t18_8.c : Value)) 5 (.string t24_14 : Value)) 7 (.int .i64 i7_32 : Value)) (0) ?_ h ?_
        · dsimp only
          refine upd_id ?_ rfl
          refine upd_id ?_ rfl
          refine upd_id ?_ rfl
          refine upd_id ?_ rfl
          refine upd_id ?_ rfl
          rfl
        rintro KN50 next49 hN50 i7_32 j w_33 h
        unfold F36_l2 at h
        refine y_seq fun K51 hK51 => ?_
        refine y_seq fun K52 hK52 => ?_
        refine y_region ?_
        refine y_k (.int .i64 i7_32 : Value) w_33 rfl rfl rfl (by kernel_rfl) ?_
        refine y_k (.slice t13_4.a t13_4.n t13_4.c : Value) w_33 rfl rfl rfl (by kernel_rfl) ?_
        refine y_k (.int .i64 ((t13_4.n : Int)) : Value) w_33 rfl rfl rfl (by kernel_rfl) ?_
        refine y_k (.bool (decide (i7_32 < ((t13_4.n : Int)))) : Value) w_33 rfl rfl rfl (by kernel_rfl) ?_
        refine y_nil ?_
        refine y_then (hK52 _ _ ?_)
        refine y_cond (decide (i7_32 < ((t13_4.n : Int)))) rfl rfl (fun hb77 => ?_) (fun hb77 => ?_)
        · replace h := h.1 (of_decide_eq_true hb77)
          refine y_skip ?_
          refine y_then (hK51 _ _ ?_)
          refine y_seq fun K53 hK53 => ?_
          refine y_block ?_
          refine y_region ?_
          refine y_k (.slice t13_4.a t13_4.n t13_4.c : Value) w_33 rfl rfl rfl (by kernel_rfl) ?_
          refine y_k (.int .i64 i7_32 : Value) w_33 rfl rfl rfl (by kernel_rfl) ?_
          refine y_k (.pointer p0_1 : Value) w_33 rfl rfl rfl (by kernel_rfl) ?_
          obtain ⟨a_34, hx55, h⟩ := h
          refine y_k (.pointer (some a_34) : Value) w_33 rfl rfl rfl (run_nilCheck hx55 rfl) ?_
          refine y_k (.pointer (some (a_34.add 3)) : Value) w_33 rfl rfl rfl (by kernel_rfl) ?_
          obtain ⟨t74_35, hx56, h⟩ := h
          refine y_v (s := Instr.loadAt 5 (.pointer (some (a_34.add 3)))) rfl rfl rfl (by kernel_rfl) (rn_load (by kernel_rfl) hx56) ?_
          obtain ⟨hx57a, hx57b, a_36, hx57, h⟩ := h
          refine y_v (v := (.pointer (some (a_36.add (Int.toNat i7_32))) : Value)) (s := Instr.indexAt 22 (.slice t13_4.a t13_4.n t13_4.c : Value) (.int .i64 i7_32 : Value)) rfl rfl rfl (by kernel_rfl) (run_ixs1 (el := 5) (by kernel_rfl) (by kernel_rfl) hx57 hx57a hx57b) ?_
          obtain ⟨hx58, h⟩ := h
          replace h := h _ rfl
          refine y_u (s := Instr.storeAt 5 (.pointer (some (a_36.add (Int.toNat i7_32)))) (.int .u8 t74_35 : Value)) rfl rfl (by kernel_rfl) (rn_store1 (by kernel_rfl) rfl hx58) ?_
          generalize w_33.setCell (a_36.add (Int.toNat i7_32)) (.int .u8 t74_35 : Value) = w_37 at h ⊢
          refine y_nil ?_
          refine e_block_n ?_
          refine y_then (hK53 _ _ ?_)
          refine y_region ?_
          refine y_k (.int .i64 i7_32 : Value) w_37 rfl rfl rfl (by kernel_rfl) ?_
          refine y_k (.int .i64 (IntKind.i64.wrap (i7_32 + 1)) : Value) w_37 rfl rfl rfl (by kernel_rfl) ?_
          refine y_k (.int .i64 (IntKind.i64.wrap (i7_32 + 1)) : Value) w_37 rfl rfl rfl (by kernel_rfl) ?_
          refine y_nil ?_
          refine y_then (hN50 (IntKind.i64.wrap (i7_32 + 1)) _ _ h ?_)
          dsimp only
          refine upd_id ?_ rfl
          refine upd_id ?_ rfl
          refine upd_id ?_ rfl
          refine upd_id ?_ rfl
          refine upd_id ?_ rfl
          rfl
        · replace h := h.2 (of_decide_eq_false hb77)
          refine y_exit ?_
          repeat (first | refine e_then_x ?_ | refine e_block_y rfl ?_)
          refine e_block_x ?_
          refine y_then (hK46 _ _ ?_)
          refine y_seq fun K59 hK59 => ?_
          refine y_seq fun K60 hK60 => ?_
          refine y_region ?_
          refine y_k (.int .i64 0 : Value) w_33 rfl rfl rfl (by kernel_rfl) ?_
          refine y_nil ?_
          refine y_then (hK60 _ _ ?_)
          refine y_block ?_
          refine y_loop (S := Sl × Int) (fun s j => match s with | (l3_38, i8_39) => upd (upd (upd (upd (upd (j) 0 (.pointer p0_1 : Value)) 3 (.slice l3_38.a l3_38.n l3_38.c : Value)) 4 (.slice t18_8.a t18_8.n t18_8.c : Value)) 5 (.string t24_14 : Value)) 8 (.int .i64 i8_39 : Value)) (t13_4, 0) ?_ h ?_
          · dsimp only
            refine upd_id ?_ rfl
            refine upd_id ?_ rfl
            refine upd_id ?_ rfl
            refine upd_id ?_ rfl
            refine upd_id ?_ rfl
            rfl
          rintro KN63 next62 hN63 ⟨l3_38, i8_39⟩ j w_40 h
          unfold F36_l3 at h
          refine y_seq fun K64 hK64 => ?_
          refine y_seq fun K65 hK65 => ?_
          refine y_region ?_
          refine y_k (.int .i64 i8_39 : Value) w_40 rfl rfl rfl (by kernel_rfl) ?_
          refine y_k (.bool (decide (i8_39 < 9)) : Value) w_40 rfl rfl rfl (by kernel_rfl) ?_
          refine y_nil ?_
          refine y_then (hK65 _ _ ?_)
          refine y_cond (decide (i8_39 < 9)) rfl rfl (fun hb76 => ?_) (fun hb76 => ?_)
          · replace h := h.1 (of_decide_eq_true hb76)
            refine y_skip ?_
            refine y_then (hK64 _ _ ?_)
            refine y_seq fun K66 hK66 => ?_
            refine y_block ?_
            refine y_region ?_
            refine y_k (.slice l3_38.a l3_38.n l3_38.c : Value) w_40 rfl rfl rfl (by kernel_rfl) ?_
            refine y_k (.pointer p0_1 : Value) w_40 rfl rfl rfl (by kernel_rfl) ?_
            obtain ⟨a_41, hx68, h⟩ := h
            refine y_k (.pointer (some a_41) : Value) w_40 rfl rfl rfl (run_nilCheck hx68 rfl) ?_
            refine y_k (.pointer (some (a_41.add 3)) : Value) w_40 rfl rfl rfl (by kernel_rfl) ?_
            obtain ⟨t84_42, hx69, h⟩ := h
            refine y_v (s := Instr.loadAt 5 (.pointer (some (a_41.add 3)))) rfl rfl rfl (by kernel_rfl) (rn_load (by kernel_rfl) hx69) ?_
            refine y_k (.slice (some ⟨w_40.heap.size, 0, none⟩) 1 1 : Value) (w_40.alloc (.cells #[.int .u8 t84_42] 5)) rfl rfl rfl (by kernel_rfl) ?_
            replace h := h _ rfl
            generalize w_40.alloc (.cells #[.int .u8 t84_42] 5) = w_43 at h ⊢
            obtain ⟨t86_44, w_45, hx70, h⟩ := h
            refine y_v (s := Builtin.append_ #[22, 22] 22 #[.slice l3_38.a l3_38.n l3_38.c, .slice (some ⟨w_40.heap.size, 0, none⟩) 1 1]) rfl rfl rfl (by kernel_rfl) hx70 ?_
            refine y_k (.slice t86_44.a t86_44.n t86_44.c : Value) w_45 rfl rfl rfl (by kernel_rfl) ?_
            refine y_nil ?_
            refine e_block_n ?_
            refine y_then (hK66 _ _ ?_)
            refine y_region ?_
            refine y_k (.int .i64 i8_39 : Value) w_45 rfl rfl rfl (by kernel_rfl) ?_
            refine y_k (.int .i64 (IntKind.i64.wrap (i8_39 + 1)) : Value) w_45 rfl rfl rfl (by kernel_rfl) ?_
            refine y_k (.int .i64 (IntKind.i64.wrap (i8_39 + 1)) : Value) w_45 rfl rfl rfl (by kernel_rfl) ?_
            refine y_nil ?_
            refine y_then (hN63 (t86_44, IntKind.i64.wrap (i8_39 + 1)) _ _ h ?_)
            dsimp only
            refine upd_id ?_ rfl
            refine upd_id ?_ rfl
            refine upd_id ?_ rfl
            refine upd_id ?_ rfl
            refine upd_id ?_ rfl
            rfl
          · replace h := h.2 (of_decide_eq_false hb76)
            refine y_exit ?_
            repeat (first | refine e_then_x ?_ | refine e_block_y rfl ?_)
            refine e_block_x ?_
            refine y_then (hK59 _ _ ?_)
            refine y_seq fun K71 hK71 => ?_
            refine y_region ?_
            refine y_k (.pointer p0_1 : Value) w_40 rfl rfl rfl (by kernel_rfl) ?_
            refine y_k (.slice l3_38.a l3_38.n l3_38.c : Value) w_40 rfl rfl rfl (by kernel_rfl) ?_
            obtain ⟨a_46, hx72, h⟩ := h
            refine y_k (.pointer (some a_46) : Value) w_40 rfl rfl rfl (run_nilCheck hx72 rfl) ?_
            refine y_k (.pointer (some (a_46.add 2)) : Value) w_40 rfl rfl rfl (by kernel_rfl) ?_
            obtain ⟨hx73, h⟩ := h
            replace h := h _ rfl
            refine y_u (s := Instr.storeAt 22 (.pointer (some (a_46.add 2))) (.slice l3_38.a l3_38.n l3_38.c : Value)) rfl rfl (by kernel_rfl) (rn_store1 (by kernel_rfl) rfl hx73) ?_
            generalize w_40.setCell (a_46.add 2) (.slice l3_38.a l3_38.n l3_38.c : Value) = w_47 at h ⊢
            refine y_nil ?_
            refine y_then (hK71 _ _ ?_)
            refine y_seq fun K74 hK74 => ?_
            refine y_region ?_
            refine y_k (.slice t18_8.a t18_8.n t18_8.c : Value) w_47 rfl rfl rfl (by kernel_rfl) ?_
            obtain ⟨t92_48, hx75, h⟩ := h
            refine y_v (s := convert 22 9 (.slice t18_8.a t18_8.n t18_8.c : Value)) rfl rfl rfl (by kernel_rfl) (hx75) ?_
            refine y_k (.string t24_14 : Value) w_47 rfl rfl rfl (by kernel_rfl) ?_
            refine y_k (.bool ((t92_48.toList == t24_14.toList)) : Value) w_47 rfl rfl rfl (by kernel_rfl) ?_
            refine y_k (.bool ((t92_48.toList == t24_14.toList)) : Value) w_47 rfl rfl rfl (by kernel_rfl) ?_
            refine y_nil ?_
            refine y_then (hK74 _ _ ?_)
            refine y_ret ?_
            repeat (first | refine e_then_r ?_ | refine e_block_r ?_)
            exact (hQ0 _ _ _ (res1 (v := (.bool ((t92_48.toList == t24_14.toList)) : Value)) rfl rfl rfl) ⟨_, rfl, h⟩).1

end Go.Proofs.Ythhcaaellhdkiaa
