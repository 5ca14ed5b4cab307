/- Printed by gen.py (own program, wip/): for each Go function a predicate transformer and its soundness. -/
import Derived.Test.YtjgijifankaglaaProg
import Derived.Test.YtjgijifankaglaaST
namespace Go.Proofs.Ytjgijifankaglaa
open Go Go.RowKit Go.Proofs.Ytjgijifankaglaa.SX
set_option linter.unusedVariables false

def F78_j2 (h0_1 : Option Addr) (t12_8 : Int) (next9 : (Int) → World → Prop) (t16_11 : Int) (w_17 : World) : Prop :=
  ∀ (w_18 : World), w_18 = w_17.drew →
  ∃ (a_19 : Addr), h0_1 = some a_19 ∧
  Calls Try.prog 98 #[.int .u64 t16_11, .int .i64 3] w_18 fun e w_21 => ∃ (t29_20 : Int), e = .returned (.int .u32 t29_20 : Value) ∧ 
  (0 : Int) ≤ t12_8 ∧ t12_8 < 64 ∧
  HasCell w_21 ((a_19.add 8).add (Int.toNat t12_8)) ∧ ∀ (w_22 : World), w_22 = w_21.setCell ((a_19.add 8).add (Int.toNat t12_8)) (.int .u32 t29_20 : Value) → 
  next9 (IntKind.i64.wrap (t12_8 + 1)) w_22
def F78_l1 (h0_1 : Option Addr) (K : World → Prop) (t10_6 : Sl) (next9 : (Int) → World → Prop) : (Int) → World → Prop := fun (t12_8) w_9 =>
  ((t12_8 < ((t10_6.n : Int)) →
  (0 : Int) ≤ t12_8 ∧ t12_8 < (t10_6.n : Int) ∧ ∃ (a_10 : Addr), t10_6.a = some a_10 ∧
  ∃ (t16_11 : Int), w_9.cell? (a_10.add (Int.toNat t12_8)) = some (.int .u64 t16_11) ∧
  ((t12_8 < 8 →
  ∀ (w_12 : World), w_12 = w_9.drew →
  ∃ (a_13 : Addr), h0_1 = some a_13 ∧
  Calls Try.prog 98 #[.int .u64 t16_11, .int .i64 2] w_12 fun e w_15 => ∃ (t22_14 : Int), e = .returned (.int .u32 t22_14 : Value) ∧ 
  (0 : Int) ≤ t12_8 ∧ t12_8 < 8 ∧
  HasCell w_15 (a_13.add (Int.toNat t12_8)) ∧ ∀ (w_16 : World), w_16 = w_15.setCell (a_13.add (Int.toNat t12_8)) (.int .u32 t22_14 : Value) → 
  F78_j2 h0_1 t12_8 next9 t16_11 w_16) ∧
  (¬ (t12_8 < 8) →
  F78_j2 h0_1 t12_8 next9 t16_11 w_9))) ∧
  (¬ (t12_8 < ((t10_6.n : Int))) →
  K w_9))
/-- (*turnkey/sum.Hash).begin -/
def F78 (h0_1 : Option Addr) (K : World → Prop) (w : World) : Prop :=
  ∃ (a_2 : Addr), h0_1 = some a_2 ∧
  ∃ (t7_3 : Value), (Instr.loadAt 96 (.pointer (some (a_2.add 8)))).run Try.prog w = .ok t7_3 w ∧
  ∃ (t8_4 : Value), (Instr.build 96 #[]).run Try.prog w = .ok t8_4 w ∧
  ∃ (t9_5 : Bool), (do eqGuard .neq 96 (Operand.tmp 7) (Operand.tmp 8) t7_3 t8_4; binOp .neq 96 t7_3 t8_4).run Try.prog w = .ok (.bool t9_5 : Value) w ∧
  ((t9_5 = true →
  K w) ∧
  (t9_5 = false →
  Calls Try.prog 97 #[.int .i64 64] w fun e w_7 => ∃ (t10_6 : Sl), e = .returned (.slice t10_6.a t10_6.n t10_6.c : Value) ∧
  kLoop (F78_l1 h0_1 K t10_6) (0) w_7))
set_option maxHeartbeats 4000000 in
set_option maxRecDepth 20000 in
theorem F78_sound (h0_1 : Option Addr) (K : World → Prop) (w : World) (h : F78 h0_1 K w) :
    Calls Try.prog 78 #[.pointer h0_1] w (fun e w1 => e = .returned (.tuple #[]) ∧ K  w1) := by
  unfold F78 at h
  refine y_enter (n := 34) (args := [.pointer h0_1]) Try.func78 rfl rfl rfl fun Q0 hQ0 => ?_
  refine y_seq fun K1 hK1 => ?_
  refine y_seq fun K2 hK2 => ?_
  refine y_region ?_
  refine y_k (.pointer h0_1 : Value) w rfl rfl rfl (by kernel_rfl) ?_
  obtain ⟨a_2, hx3, h⟩ := h
  refine y_k (.pointer (some a_2) : Value) w rfl rfl rfl (run_nilCheck hx3 rfl) ?_
  refine y_k (.pointer (some (a_2.add 8)) : Value) w rfl rfl rfl (by kernel_rfl) ?_
  obtain ⟨t7_3, hx4, h⟩ := h
  refine y_v (s := Instr.loadAt 96 (.pointer (some (a_2.add 8)))) rfl rfl rfl (by kernel_rfl) (hx4) ?_
  obtain ⟨t8_4, hx5, h⟩ := h
  refine y_v (s := Instr.build 96 #[]) rfl rfl rfl (by kernel_rfl) (hx5) ?_
  obtain ⟨t9_5, hx6, h⟩ := h
  refine y_v (s := do eqGuard .neq 96 (Operand.tmp 7) (Operand.tmp 8) t7_3 t8_4; binOp .neq 96 t7_3 t8_4) rfl rfl rfl (by kernel_rfl) (hx6) ?_
  refine y_nil ?_
  refine y_then (hK2 _ _ ?_)
  refine y_cond (t9_5) rfl rfl (fun hb30 => ?_) (fun hb30 => ?_)
  · replace h := h.1 (hb30)
    refine y_ret ?_
    repeat (first | refine e_then_r ?_ | refine e_block_r ?_)
    exact (hQ0 _ _ _ (res0 rfl) ⟨rfl, h⟩).1
  · replace h := h.2 (hb30)
    refine y_skip ?_
    refine y_then (hK1 _ _ ?_)
    refine y_seq fun K7 hK7 => ?_
    refine y_region ?_
    refine y_call rfl rfl rfl (by kernel_rfl) (h.mono ?_)
    rintro _ w_7 ⟨t10_6, rfl, h⟩
    refine ⟨_, rfl, ?_⟩
    refine y_k (.int .i64 ((t10_6.n : Int)) : Value) w_7 rfl rfl rfl (by kernel_rfl) ?_
    refine y_k (.int .i64 0 : Value) w_7 rfl rfl rfl (by kernel_rfl) ?_
    refine y_nil ?_
    refine y_then (hK7 _ _ ?_)
    refine y_block ?_
    refine y_loop (S := Int) (fun s j => match s with | (t12_8) => upd (upd (upd (upd (j) 0 (.pointer h0_1 : Value)) 10 (.slice t10_6.a t10_6.n t10_6.c : Value)) 11 (.int .i64 ((t10_6.n : Int)) : Value)) 12 (.int .i64 t12_8 : Value)) (0) ?_ h ?_
    · dsimp only
      refine upd_id ?_ rfl
      refine upd_id ?_ rfl
      refine upd_id ?_ rfl
      refine upd_id ?_ rfl
      rfl
    rintro KN10 next9 hN10 t12_8 j w_9 h
    unfold F78_l1 at h
    refine y_seq fun K11 hK11 => ?_
    refine y_region ?_
    refine y_k (.bool (decide (t12_8 < ((t10_6.n : Int)))) : Value) w_9 rfl rfl rfl (by kernel_rfl) ?_
    refine y_nil ?_
    refine y_then (hK11 _ _ ?_)
    refine y_seq fun K12 hK12 => ?_
    refine y_cond (decide (t12_8 < ((t10_6.n : Int)))) rfl rfl (fun hb29 => ?_) (fun hb29 => ?_)
    · replace h := h.1 (of_decide_eq_true hb29)
      refine y_skip ?_
      refine y_then (hK12 _ _ ?_)
      refine y_seq fun K13 hK13 => ?_
      refine y_block ?_
      refine y_seq fun K15 hK15 => ?_
      refine y_region ?_
      refine y_k (.int .i64 t12_8 : Value) w_9 rfl rfl rfl (by kernel_rfl) ?_
      obtain ⟨hx16a, hx16b, a_10, hx16, h⟩ := h
      refine y_v (v := (.pointer (some (a_10.add (Int.toNat t12_8))) : Value)) (s := Instr.indexAt 141 (.slice t10_6.a t10_6.n t10_6.c : Value) (.int .i64 t12_8 : Value)) rfl rfl rfl (by kernel_rfl) (run_ixs1 (el := 87) (by kernel_rfl) (by kernel_rfl) hx16 hx16a hx16b) ?_
      obtain ⟨t16_11, hx17, h⟩ := h
      refine y_v (s := Instr.loadAt 87 (.pointer (some (a_10.add (Int.toNat t12_8))))) rfl rfl rfl (by kernel_rfl) (rn_load (by kernel_rfl) hx17) ?_
      refine y_k (.int .i64 t12_8 : Value) w_9 rfl rfl rfl (by kernel_rfl) ?_
      refine y_k (.int .u64 t16_11 : Value) w_9 rfl rfl rfl (by kernel_rfl) ?_
      refine y_nil ?_
      refine y_then (hK15 _ _ ?_)
      refine y_seq fun K18 hK18 => ?_
      have hjK18 : ∀ (f : Fr) (w_17 : World), f 0 = (.pointer h0_1 : Value) → f 2 = (.int .i64 t12_8 : Value) → f 3 = (.int .u64 t16_11 : Value) → f 10 = (.slice t10_6.a t10_6.n t10_6.c : Value) → f 11 = (.int .i64 ((t10_6.n : Int)) : Value) → f 12 = (.int .i64 t12_8 : Value) → F78_j2 h0_1 t12_8 next9 t16_11 w_17 → WK K18 34 f w_17 := by
        intro f  w_17 e0 e2 e3 e10 e11 e12 h
        refine y_atf (upd_id (upd_id (upd_id (upd_id (upd_id (upd_id rfl e0) e2) e3) e10) e11) e12) ?_
        clear e0 e2 e3 e10 e11 e12
        unfold F78_j2 at h
        refine hK18 _ _ ?_
        obtain ⟨w_18, hwd24⟩ : ∃ wd : World, wd = w_17.drew := ⟨_, rfl⟩
        replace h := h _ hwd24
        refine t_region (wd := w_18) [] (by kernel_rfl) hwd24 SF_nil fun Q24 hE24 hp24 hS => ?_
        clear hwd24
        refine t_kw hp24 hS 0 (.pointer h0_1 : Value) rfl (wanted_none rfl) rfl rfl (by kernel_rfl) (fun _ _ => by kernel_rfl) fun hS => ?_
        refine t_kw hp24 hS 1 (.int .i64 t12_8 : Value) rfl (wanted_none rfl) rfl rfl (by kernel_rfl) (fun _ _ => by kernel_rfl) fun hS => ?_
        refine t_kw hp24 hS 2 (.int .u64 t16_11 : Value) rfl (wanted_none rfl) rfl rfl (by kernel_rfl) (fun _ _ => by kernel_rfl) fun hS => ?_
        obtain ⟨a_19, hx25, h⟩ := h
        refine t_kw hp24 hS 4 (.pointer (some a_19) : Value) rfl (wanted_none rfl) rfl rfl (by kernel_rfl) (fun _ _ => run_nilCheck hx25 rfl) fun hS => ?_
        refine t_kw hp24 hS 5 (.pointer (some (a_19.add 8)) : Value) rfl (wanted_none rfl) rfl rfl (by kernel_rfl) (fun _ _ => by kernel_rfl) fun hS => ?_
        refine t_call 3 (by kernel_rfl) rfl (wanted_none rfl) rfl rfl (by kernel_rfl) (h.mono ?_)
        rintro _ w_21 ⟨t29_20, rfl, h⟩
        refine ⟨_, rfl, SF_nil, fun hS => ?_⟩
        obtain ⟨hx26a, hx26b, h⟩ := h
        refine t_v (s := Instr.indexAt 96 (.pointer (some (a_19.add 8)) : Value) (.int .i64 t12_8 : Value)) hp24 hS 6 (.pointer (some ((a_19.add 8).add (Int.toNat t12_8))) : Value) rfl (wanted_none rfl) rfl rfl (by kernel_rfl) (by kernel_rfl) (fun _ _ => run_ixa1 (el := 23) (by kernel_rfl) (by kernel_rfl) hx26a hx26b) fun hS => ?_
        obtain ⟨hx27, h⟩ := h
        replace h := h _ rfl
        refine t_u 7 (s := Instr.storeAt 23 (.pointer (some ((a_19.add 8).add (Int.toNat t12_8)))) (.int .u32 t29_20 : Value)) (by kernel_rfl) rfl (wanted_none rfl) rfl (by kernel_rfl) (rn_store1 (by kernel_rfl) rfl hx27) SF_nil fun hS => ?_
        generalize w_21.setCell ((a_19.add 8).add (Int.toNat t12_8)) (.int .u32 t29_20 : Value) = w_22 at hS h ⊢
        refine t_done (by kernel_rfl) (hE24 _ _ ?_)
        refine e_block_n ?_
        refine y_then (hK13 _ _ ?_)
        refine y_region ?_
        refine y_k (.int .i64 (IntKind.i64.wrap (t12_8 + 1)) : Value) w_22 rfl rfl rfl (by kernel_rfl) ?_
        refine y_k (.int .i64 (IntKind.i64.wrap (t12_8 + 1)) : Value) w_22 rfl rfl rfl (by kernel_rfl) ?_
        refine y_nil ?_
        refine y_then (hN10 (IntKind.i64.wrap (t12_8 + 1)) _ _ h ?_)
        dsimp only
        refine upd_id ?_ rfl
        refine upd_id ?_ rfl
        refine upd_id ?_ rfl
        refine upd_id ?_ rfl
        rfl
      refine y_seq fun K19 hK19 => ?_
      refine y_region ?_
      refine y_k (.int .i64 t12_8 : Value) w_9 rfl rfl rfl (by kernel_rfl) ?_
      refine y_k (.bool (decide (t12_8 < 8)) : Value) w_9 rfl rfl rfl (by kernel_rfl) ?_
      refine y_nil ?_
      refine y_then (hK19 _ _ ?_)
      refine y_cond (decide (t12_8 < 8)) rfl rfl (fun hb28 => ?_) (fun hb28 => ?_)
      · replace h := h.1 (of_decide_eq_true hb28)
        obtain ⟨w_12, hwd20⟩ : ∃ wd : World, wd = w_9.drew := ⟨_, rfl⟩
        replace h := h _ hwd20
        refine t_region (wd := w_12) [] (by kernel_rfl) hwd20 SF_nil fun Q20 hE20 hp20 hS => ?_
        clear hwd20
        refine t_kw hp20 hS 0 (.pointer h0_1 : Value) rfl (wanted_none rfl) rfl rfl (by kernel_rfl) (fun _ _ => by kernel_rfl) fun hS => ?_
        refine t_kw hp20 hS 1 (.int .i64 t12_8 : Value) rfl (wanted_none rfl) rfl rfl (by kernel_rfl) (fun _ _ => by kernel_rfl) fun hS => ?_
        refine t_kw hp20 hS 2 (.int .u64 t16_11 : Value) rfl (wanted_none rfl) rfl rfl (by kernel_rfl) (fun _ _ => by kernel_rfl) fun hS => ?_
        obtain ⟨a_13, hx21, h⟩ := h
        refine t_kw hp20 hS 4 (.pointer (some a_13) : Value) rfl (wanted_none rfl) rfl rfl (by kernel_rfl) (fun _ _ => run_nilCheck hx21 rfl) fun hS => ?_
        refine t_kw hp20 hS 5 (.pointer (some a_13) : Value) rfl (wanted_none rfl) rfl rfl (by kernel_rfl) (fun _ _ => by kernel_rfl) fun hS => ?_
        refine t_call 3 (by kernel_rfl) rfl (wanted_none rfl) rfl rfl (by kernel_rfl) (h.mono ?_)
        rintro _ w_15 ⟨t22_14, rfl, h⟩
        refine ⟨_, rfl, SF_nil, fun hS => ?_⟩
        obtain ⟨hx22a, hx22b, h⟩ := h
        refine t_v (s := Instr.indexAt 94 (.pointer (some a_13) : Value) (.int .i64 t12_8 : Value)) hp20 hS 6 (.pointer (some (a_13.add (Int.toNat t12_8))) : Value) rfl (wanted_none rfl) rfl rfl (by kernel_rfl) (by kernel_rfl) (fun _ _ => run_ixa1 (el := 23) (by kernel_rfl) (by kernel_rfl) hx22a hx22b) fun hS => ?_
        obtain ⟨hx23, h⟩ := h
        replace h := h _ rfl
        refine t_u 7 (s := Instr.storeAt 23 (.pointer (some (a_13.add (Int.toNat t12_8)))) (.int .u32 t22_14 : Value)) (by kernel_rfl) rfl (wanted_none rfl) rfl (by kernel_rfl) (rn_store1 (by kernel_rfl) rfl hx23) SF_nil fun hS => ?_
        generalize w_15.setCell (a_13.add (Int.toNat t12_8)) (.int .u32 t22_14 : Value) = w_16 at hS h ⊢
        refine t_done (by kernel_rfl) (hE20 _ _ ?_)
        exact y_then (hjK18 _ w_16 rfl rfl rfl rfl rfl rfl h)
      · replace h := h.2 (of_decide_eq_false hb28)
        refine y_skip ?_
        exact y_then (hjK18 _ w_9 rfl rfl rfl rfl rfl rfl h)
    · replace h := h.2 (of_decide_eq_false hb29)
      refine y_exit ?_
      repeat (first | refine e_then_x ?_ | refine e_block_y rfl ?_)
      refine e_block_x ?_
      exact (hQ0 _ _ _ (res0 rfl) ⟨rfl, h⟩).2

def F47_l2 (h0_1 : Option Addr) (K : World → Prop) (next44 : (Sl) → World → Prop) : (Sl) → World → Prop := fun (b1_54) w_55 =>
  ((((b1_54.n : Int)) ≥ 64 →
  ∀ (w_56 : World), w_56 = w_55.drew →
  ∃ (a_57 : Addr), h0_1 = some a_57 ∧
  ∃ (t84_58 : Int), ∃ (t84_59 : Int), ∃ (t84_60 : Int), ∃ (t84_61 : Int), ∃ (t84_62 : Int), ∃ (t84_63 : Int), ∃ (t84_64 : Int), ∃ (t84_65 : Int), CellsAt w_56 a_57 0 [.int .u32 t84_58, .int .u32 t84_59, .int .u32 t84_60, .int .u32 t84_61, .int .u32 t84_62, .int .u32 t84_63, .int .u32 t84_64, .int .u32 t84_65] ∧
  ∃ (a_66 : Addr), h0_1 = some a_66 ∧
  ∃ (t89_67 : Sl), (Instr.sliceAt 33 (.slice b1_54.a b1_54.n b1_54.c : Value) none (some (.int .i64 64 : Value)) none).run Try.prog w_56 = .ok (.slice t89_67.a t89_67.n t89_67.c : Value) w_56 ∧
  Calls Try.prog 79 #[.agg #[.int .u32 t84_58, .int .u32 t84_59, .int .u32 t84_60, .int .u32 t84_61, .int .u32 t84_62, .int .u32 t84_63, .int .u32 t84_64, .int .u32 t84_65], .pointer (some (a_66.add 8)), .slice t89_67.a t89_67.n t89_67.c] w_56 fun e w_76 => ∃ (t90_68 : Int), ∃ (t90_69 : Int), ∃ (t90_70 : Int), ∃ (t90_71 : Int), ∃ (t90_72 : Int), ∃ (t90_73 : Int), ∃ (t90_74 : Int), ∃ (t90_75 : Int), e = .returned (.agg #[.int .u32 t90_68, .int .u32 t90_69, .int .u32 t90_70, .int .u32 t90_71, .int .u32 t90_72, .int .u32 t90_73, .int .u32 t90_74, .int .u32 t90_75] : Value) ∧ 
  ∃ (a_77 : Addr), h0_1 = some a_77 ∧
  HasCells w_76 a_77 0 8 ∧ ∀ (w_78 : World), w_78 = setCells w_76 a_77 0 [.int .u32 t90_68, .int .u32 t90_69, .int .u32 t90_70, .int .u32 t90_71, .int .u32 t90_72, .int .u32 t90_73, .int .u32 t90_74, .int .u32 t90_75] → 
  ∃ (t79_79 : Sl), (Instr.sliceAt 33 (.slice b1_54.a b1_54.n b1_54.c : Value) (some (.int .i64 64 : Value)) none none).run Try.prog w_78 = .ok (.slice t79_79.a t79_79.n t79_79.c : Value) w_78 ∧
  next44 (t79_79) w_78) ∧
  (¬ (((b1_54.n : Int)) ≥ 64) →
  ∃ (a_80 : Addr), h0_1 = some a_80 ∧
  ∃ (t97_81 : Sl), w_55.cell? (a_80.add 72) = some (.slice t97_81.a t97_81.n t97_81.c) ∧
  ∃ (t99_82 : Sl), ∃ (w_83 : World), (Builtin.append_ #[33, 33] 33 #[.slice t97_81.a t97_81.n t97_81.c, .slice b1_54.a b1_54.n b1_54.c]).run Try.prog w_55 = .ok (.slice t99_82.a t99_82.n t99_82.c : Value) w_83 ∧
  ∃ (a_84 : Addr), h0_1 = some a_84 ∧
  HasCell w_83 (a_84.add 72) ∧ ∀ (w_85 : World), w_85 = w_83.setCell (a_84.add 72) (.slice t99_82.a t99_82.n t99_82.c : Value) →
  K w_85))
def F47_j1 (h0_1 : Option Addr) (K : World → Prop) (b1_52 : Sl) (w_53 : World) : Prop :=
  kLoop (F47_l2 h0_1 K) (b1_52) w_53
/-- (*turnkey/sum.Hash).Write -/
def F47 (h0_1 : Option Addr) (b1_2 : Sl) (K : World → Prop) (w : World) : Prop :=
  Calls Try.prog 78 #[.pointer h0_1] w fun e w_3 => e = .returned (.tuple #[] : Value) ∧
  ∃ (a_4 : Addr), h0_1 = some a_4 ∧
  ∃ (t10_5 : Int), w_3.cell? (a_4.add 73) = some (.int .u64 t10_5) ∧
  ∃ (a_6 : Addr), h0_1 = some a_6 ∧
  HasCell w_3 (a_6.add 73) ∧ ∀ (w_7 : World), w_7 = w_3.setCell (a_6.add 73) (.int .u64 (IntKind.u64.wrap (t10_5 + (IntKind.u64.wrap ((b1_2.n : Int))))) : Value) →
  ∃ (a_8 : Addr), h0_1 = some a_8 ∧
  ∃ (t20_9 : Sl), w_7.cell? (a_8.add 72) = some (.slice t20_9.a t20_9.n t20_9.c) ∧
  ((((t20_9.n : Int)) > 0 →
  ∃ (a_10 : Addr), h0_1 = some a_10 ∧
  ∃ (t26_11 : Sl), w_7.cell? (a_10.add 72) = some (.slice t26_11.a t26_11.n t26_11.c) ∧
  ∀ (w_12 : World), w_12 = w_7.drew →
  ∃ (a_13 : Addr), h0_1 = some a_13 ∧
  ∃ (t36_14 : Sl), w_12.cell? (a_13.add 72) = some (.slice t36_14.a t36_14.n t36_14.c) ∧
  ∃ (t39_15 : Sl), (Instr.sliceAt 33 (.slice b1_2.a b1_2.n b1_2.c : Value) none (some (.int .i64 ((if ((b1_2.n : Int)) < (IntKind.i64.wrap (64 - ((t26_11.n : Int)))) then ((b1_2.n : Int)) else (IntKind.i64.wrap (64 - ((t26_11.n : Int)))))) : Value)) none).run Try.prog w_12 = .ok (.slice t39_15.a t39_15.n t39_15.c : Value) w_12 ∧
  ∃ (t40_16 : Sl), ∃ (w_17 : World), (Builtin.append_ #[33, 33] 33 #[.slice t36_14.a t36_14.n t36_14.c, .slice t39_15.a t39_15.n t39_15.c]).run Try.prog w_12 = .ok (.slice t40_16.a t40_16.n t40_16.c : Value) w_17 ∧ 
  ∃ (a_18 : Addr), h0_1 = some a_18 ∧
  HasCell w_17 (a_18.add 72) ∧ ∀ (w_19 : World), w_19 = w_17.setCell (a_18.add 72) (.slice t40_16.a t40_16.n t40_16.c : Value) → 
  ∃ (t45_20 : Sl), (Instr.sliceAt 33 (.slice b1_2.a b1_2.n b1_2.c : Value) (some (.int .i64 ((if ((b1_2.n : Int)) < (IntKind.i64.wrap (64 - ((t26_11.n : Int)))) then ((b1_2.n : Int)) else (IntKind.i64.wrap (64 - ((t26_11.n : Int)))))) : Value)) none none).run Try.prog w_19 = .ok (.slice t45_20.a t45_20.n t45_20.c : Value) w_19 ∧
  ∃ (a_21 : Addr), h0_1 = some a_21 ∧
  ∃ (t49_22 : Sl), w_19.cell? (a_21.add 72) = some (.slice t49_22.a t49_22.n t49_22.c) ∧
  ((((t49_22.n : Int)) < 64 →
  K w_19) ∧
  (¬ (((t49_22.n : Int)) < 64) →
  ∀ (w_23 : World), w_23 = w_19.drew →
  ∃ (a_24 : Addr), h0_1 = some a_24 ∧
  ∃ (t56_25 : Int), ∃ (t56_26 : Int), ∃ (t56_27 : Int), ∃ (t56_28 : Int), ∃ (t56_29 : Int), ∃ (t56_30 : Int), ∃ (t56_31 : Int), ∃ (t56_32 : Int), CellsAt w_23 a_24 0 [.int .u32 t56_25, .int .u32 t56_26, .int .u32 t56_27, .int .u32 t56_28, .int .u32 t56_29, .int .u32 t56_30, .int .u32 t56_31, .int .u32 t56_32] ∧
  ∃ (a_33 : Addr), h0_1 = some a_33 ∧
  ∃ (a_34 : Addr), h0_1 = some a_34 ∧
  ∃ (t63_35 : Sl), w_23.cell? (a_34.add 72) = some (.slice t63_35.a t63_35.n t63_35.c) ∧
  Calls Try.prog 79 #[.agg #[.int .u32 t56_25, .int .u32 t56_26, .int .u32 t56_27, .int .u32 t56_28, .int .u32 t56_29, .int .u32 t56_30, .int .u32 t56_31, .int .u32 t56_32], .pointer (some (a_33.add 8)), .slice t63_35.a t63_35.n t63_35.c] w_23 fun e w_44 => ∃ (t64_36 : Int), ∃ (t64_37 : Int), ∃ (t64_38 : Int), ∃ (t64_39 : Int), ∃ (t64_40 : Int), ∃ (t64_41 : Int), ∃ (t64_42 : Int), ∃ (t64_43 : Int), e = .returned (.agg #[.int .u32 t64_36, .int .u32 t64_37, .int .u32 t64_38, .int .u32 t64_39, .int .u32 t64_40, .int .u32 t64_41, .int .u32 t64_42, .int .u32 t64_43] : Value) ∧ 
  ∃ (a_45 : Addr), h0_1 = some a_45 ∧
  HasCells w_44 a_45 0 8 ∧ ∀ (w_46 : World), w_46 = setCells w_44 a_45 0 [.int .u32 t64_36, .int .u32 t64_37, .int .u32 t64_38, .int .u32 t64_39, .int .u32 t64_40, .int .u32 t64_41, .int .u32 t64_42, .int .u32 t64_43] → 
  ∃ (a_47 : Addr), h0_1 = some a_47 ∧
  ∃ (t71_48 : Sl), w_46.cell? (a_47.add 72) = some (.slice t71_48.a t71_48.n t71_48.c) ∧
  ∃ (t72_49 : Sl), (Instr.sliceAt 33 (.slice t71_48.a t71_48.n t71_48.c : Value) none (some (.int .i64 0 : Value)) none).run Try.prog w_46 = .ok (.slice t72_49.a t72_49.n t72_49.c : Value) w_46 ∧
  ∃ (a_50 : Addr), h0_1 = some a_50 ∧
  HasCell w_46 (a_50.add 72) ∧ ∀ (w_51 : World), w_51 = w_46.setCell (a_50.add 72) (.slice t72_49.a t72_49.n t72_49.c : Value) →
  F47_j1 h0_1 K t45_20 w_51))) ∧
  (¬ (((t20_9.n : Int)) > 0) →
  F47_j1 h0_1 K b1_2 w_7))
set_option maxHeartbeats 4000000 in
set_option maxRecDepth 20000 in
theorem F47_sound (h0_1 : Option Addr) (b1_2 : Sl) (K : World → Prop) (w : World) (h : F47 h0_1 b1_2 K w) :
    Calls Try.prog 47 #[.pointer h0_1, .slice b1_2.a b1_2.n b1_2.c] w (fun e w1 => e = .returned (.tuple #[]) ∧ K  w1) := by
  unfold F47 at h
  refine y_enter (n := 102) (args := [.pointer h0_1, .slice b1_2.a b1_2.n b1_2.c]) Try.func47 rfl rfl rfl fun Q0 hQ0 => ?_
  refine y_seq fun K1 hK1 => ?_
  refine y_region ?_
  refine y_k (.pointer h0_1 : Value) w rfl rfl rfl (by kernel_rfl) ?_
  refine y_call rfl rfl rfl (by kernel_rfl) (h.mono ?_)
  rintro _ w_3 ⟨rfl, h⟩
  refine ⟨_, rfl, ?_⟩
  refine y_nil ?_
  refine y_then (hK1 _ _ ?_)
  refine y_seq fun K2 hK2 => ?_
  refine y_region ?_
  refine y_k (.pointer h0_1 : Value) w_3 rfl rfl rfl (by kernel_rfl) ?_
  obtain ⟨a_4, hx3, h⟩ := h
  refine y_k (.pointer (some a_4) : Value) w_3 rfl rfl rfl (run_nilCheck hx3 rfl) ?_
  refine y_k (.pointer (some (a_4.add 73)) : Value) w_3 rfl rfl rfl (by kernel_rfl) ?_
  obtain ⟨t10_5, hx4, h⟩ := h
  refine y_v (s := Instr.loadAt 87 (.pointer (some (a_4.add 73)))) rfl rfl rfl (by kernel_rfl) (rn_load (by kernel_rfl) hx4) ?_
  refine y_k (.slice b1_2.a b1_2.n b1_2.c : Value) w_3 rfl rfl rfl (by kernel_rfl) ?_
  refine y_k (.int .i64 ((b1_2.n : Int)) : Value) w_3 rfl rfl rfl (by kernel_rfl) ?_
  refine y_k (.int .u64 (IntKind.u64.wrap ((b1_2.n : Int))) : Value) w_3 rfl rfl rfl (by kernel_rfl) ?_
  refine y_k (.int .u64 (IntKind.u64.wrap (t10_5 + (IntKind.u64.wrap ((b1_2.n : Int))))) : Value) w_3 rfl rfl rfl (by kernel_rfl) ?_
  obtain ⟨a_6, hx5, h⟩ := h
  refine y_k (.pointer (some a_6) : Value) w_3 rfl rfl rfl (run_nilCheck hx5 rfl) ?_
  refine y_k (.pointer (some (a_6.add 73)) : Value) w_3 rfl rfl rfl (by kernel_rfl) ?_
  obtain ⟨hx6, h⟩ := h
  replace h := h _ rfl
  refine y_u (s := Instr.storeAt 87 (.pointer (some (a_6.add 73))) (.int .u64 (IntKind.u64.wrap (t10_5 + (IntKind.u64.wrap ((b1_2.n : Int))))) : Value)) rfl rfl (by kernel_rfl) (rn_store1 (by kernel_rfl) rfl hx6) ?_
  generalize w_3.setCell (a_6.add 73) (.int .u64 (IntKind.u64.wrap (t10_5 + (IntKind.u64.wrap ((b1_2.n : Int))))) : Value) = w_7 at h ⊢
  refine y_nil ?_
  refine y_then (hK2 _ _ ?_)
  refine y_seq fun K7 hK7 => ?_
  have hjK7 : ∀ (f : Fr) (b1_52 : Sl) (w_53 : World), f 0 = (.pointer h0_1 : Value) → f 1 = (.slice b1_52.a b1_52.n b1_52.c : Value) → F47_j1 h0_1 K b1_52 w_53 → WK K7 102 f w_53 := by
    intro f b1_52 w_53 e0 e1 h
    refine y_atf (upd_id (upd_id rfl e0) e1) ?_
    clear e0 e1
    unfold F47_j1 at h
    refine hK7 _ _ ?_
    refine y_seq fun K42 hK42 => ?_
    refine y_block ?_
    refine y_loop (S := Sl) (fun s j => match s with | (b1_54) => upd (upd (j) 0 (.pointer h0_1 : Value)) 1 (.slice b1_54.a b1_54.n b1_54.c : Value)) (b1_52) ?_ h ?_
    · dsimp only
      refine upd_id ?_ rfl
      refine upd_id ?_ rfl
      rfl
    rintro KN45 next44 hN45 b1_54 j w_55 h
    unfold F47_l2 at h
    refine y_seq fun K46 hK46 => ?_
    refine y_seq fun K47 hK47 => ?_
    refine y_region ?_
    refine y_k (.slice b1_54.a b1_54.n b1_54.c : Value) w_55 rfl rfl rfl (by kernel_rfl) ?_
    refine y_k (.int .i64 ((b1_54.n : Int)) : Value) w_55 rfl rfl rfl (by kernel_rfl) ?_
    refine y_k (.bool (decide (((b1_54.n : Int)) ≥ 64)) : Value) w_55 rfl rfl rfl (by kernel_rfl) ?_
    refine y_nil ?_
    refine y_then (hK47 _ _ ?_)
    refine y_cond (decide (((b1_54.n : Int)) ≥ 64)) rfl rfl (fun hb63 => ?_) (fun hb63 => ?_)
    · replace h := h.1 (of_decide_eq_true hb63)
      refine y_skip ?_
      refine y_then (hK46 _ _ ?_)
      refine y_seq fun K48 hK48 => ?_
      refine y_block ?_
      obtain ⟨w_56, hwd50⟩ : ∃ wd : World, wd = w_55.drew := ⟨_, rfl⟩
      replace h := h _ hwd50
      refine t_region (wd := w_56) [] (by kernel_rfl) hwd50 SF_nil fun Q50 hE50 hp50 hS => ?_
      clear hwd50
      refine t_kw hp50 hS 0 (.pointer h0_1 : Value) rfl (wanted_none rfl) rfl rfl (by kernel_rfl) (fun _ _ => by kernel_rfl) fun hS => ?_
      refine t_kw hp50 hS 1 (.pointer h0_1 : Value) rfl (wanted_none rfl) rfl rfl (by kernel_rfl) (fun _ _ => by kernel_rfl) fun hS => ?_
      obtain ⟨a_57, hx51, h⟩ := h
      refine t_kw hp50 hS 2 (.pointer (some a_57) : Value) rfl (wanted_none rfl) rfl rfl (by kernel_rfl) (fun _ _ => run_nilCheck hx51 rfl) fun hS => ?_
      refine t_kw hp50 hS 3 (.pointer (some a_57) : Value) rfl (wanted_none rfl) rfl rfl (by kernel_rfl) (fun _ _ => by kernel_rfl) fun hS => ?_
      obtain ⟨t84_58, t84_59, t84_60, t84_61, t84_62, t84_63, t84_64, t84_65, hx52, h⟩ := h
      refine t_add ⟨4, [10, 13], fun wx => CellsAt wx a_57 0 [.int .u32 t84_58, .int .u32 t84_59, .int .u32 t84_60, .int .u32 t84_61, .int .u32 t84_62, .int .u32 t84_63, .int .u32 t84_64, .int .u32 t84_65]⟩ ?_
      replace hS := SF_on (x := ⟨4, [10, 13], fun wx => CellsAt wx a_57 0 [.int .u32 t84_58, .int .u32 t84_59, .int .u32 t84_60, .int .u32 t84_61, .int .u32 t84_62, .int .u32 t84_63, .int .u32 t84_64, .int .u32 t84_65]⟩) hx52 hS
      refine t_v (s := Instr.loadAt 94 (.pointer (some a_57))) hp50 hS 4 (.agg #[.int .u32 t84_58, .int .u32 t84_59, .int .u32 t84_60, .int .u32 t84_61, .int .u32 t84_62, .int .u32 t84_63, .int .u32 t84_64, .int .u32 t84_65] : Value) rfl (wanted_none rfl) rfl rfl (by kernel_rfl) (by kernel_rfl) (fun _ hw => rn_loadcells (k := 8) ⟨by kernel_rfl, by kernel_rfl⟩ rfl (Sw.fact (List.Mem.head _) rfl hw)) fun hS => ?_
      refine t_kw hp50 hS 5 (.pointer h0_1 : Value) rfl (wanted_none rfl) rfl rfl (by kernel_rfl) (fun _ _ => by kernel_rfl) fun hS => ?_
      obtain ⟨a_66, hx53, h⟩ := h
      refine t_kw hp50 hS 6 (.pointer (some a_66) : Value) rfl (wanted_none rfl) rfl rfl (by kernel_rfl) (fun _ _ => run_nilCheck hx53 rfl) fun hS => ?_
      refine t_kw hp50 hS 7 (.pointer (some (a_66.add 8)) : Value) rfl (wanted_none rfl) rfl rfl (by kernel_rfl) (fun _ _ => by kernel_rfl) fun hS => ?_
      refine t_kw hp50 hS 8 (.slice b1_54.a b1_54.n b1_54.c : Value) rfl (wanted_none rfl) rfl rfl (by kernel_rfl) (fun _ _ => by kernel_rfl) fun hS => ?_
      obtain ⟨t89_67, hx54, h⟩ := h
      refine t_add ⟨9, [10, 13], fun wx => (Instr.sliceAt 33 (.slice b1_54.a b1_54.n b1_54.c : Value) none (some (.int .i64 64 : Value)) none).run Try.prog wx = .ok (.slice t89_67.a t89_67.n t89_67.c : Value) wx⟩ ?_
      replace hS := SF_on (x := ⟨9, [10, 13], fun wx => (Instr.sliceAt 33 (.slice b1_54.a b1_54.n b1_54.c : Value) none (some (.int .i64 64 : Value)) none).run Try.prog wx = .ok (.slice t89_67.a t89_67.n t89_67.c : Value) wx⟩) hx54 hS
      refine t_v (s := Instr.sliceAt 33 (.slice b1_54.a b1_54.n b1_54.c : Value) none (some (.int .i64 64 : Value)) none) hp50 hS 9 (.slice t89_67.a t89_67.n t89_67.c : Value) rfl (wanted_none rfl) rfl rfl (by kernel_rfl) (by kernel_rfl) (fun _ hw => (Sw.fact (List.Mem.head _) rfl hw)) fun hS => ?_
      refine t_call 10 (by kernel_rfl) rfl (wanted_none rfl) rfl rfl (by kernel_rfl) (h.mono ?_)
      rintro _ w_76 ⟨t90_68, t90_69, t90_70, t90_71, t90_72, t90_73, t90_74, t90_75, rfl, h⟩
      refine ⟨_, rfl, (SF_off (by kernel_rfl) (by kernel_rfl) (SF_off (by kernel_rfl) (by kernel_rfl) SF_nil)), fun hS => ?_⟩
      obtain ⟨a_77, hx55, h⟩ := h
      refine t_kw hp50 hS 11 (.pointer (some a_77) : Value) rfl (wanted_none rfl) rfl rfl (by kernel_rfl) (fun _ _ => run_nilCheck hx55 rfl) fun hS => ?_
      refine t_kw hp50 hS 12 (.pointer (some a_77) : Value) rfl (wanted_none rfl) rfl rfl (by kernel_rfl) (fun _ _ => by kernel_rfl) fun hS => ?_
      obtain ⟨hx56, h⟩ := h
      replace h := h _ rfl
      refine t_u 13 (s := Instr.storeAt 94 (.pointer (some a_77)) (.agg #[.int .u32 t90_68, .int .u32 t90_69, .int .u32 t90_70, .int .u32 t90_71, .int .u32 t90_72, .int .u32 t90_73, .int .u32 t90_74, .int .u32 t90_75] : Value)) (by kernel_rfl) rfl (wanted_none rfl) rfl (by kernel_rfl) (rn_storecells (k := 8) (cs := [.int .u32 t90_68, .int .u32 t90_69, .int .u32 t90_70, .int .u32 t90_71, .int .u32 t90_72, .int .u32 t90_73, .int .u32 t90_74, .int .u32 t90_75]) (by kernel_rfl) rfl (by simp [Value.oneCell']) hx56) (SF_off (by kernel_rfl) (by kernel_rfl) (SF_off (by kernel_rfl) (by kernel_rfl) SF_nil)) fun hS => ?_
      generalize setCells w_76 a_77 0 [.int .u32 t90_68, .int .u32 t90_69, .int .u32 t90_70, .int .u32 t90_71, .int .u32 t90_72, .int .u32 t90_73, .int .u32 t90_74, .int .u32 t90_75] = w_78 at hS h ⊢
      refine t_done (by kernel_rfl) (hE50 _ _ ?_)
      refine e_block_n ?_
      refine y_then (hK48 _ _ ?_)
      refine y_region ?_
      refine y_k (.slice b1_54.a b1_54.n b1_54.c : Value) w_78 rfl rfl rfl (by kernel_rfl) ?_
      obtain ⟨t79_79, hx57, h⟩ := h
      refine y_v (s := Instr.sliceAt 33 (.slice b1_54.a b1_54.n b1_54.c : Value) (some (.int .i64 64 : Value)) none none) rfl rfl rfl (by kernel_rfl) (hx57) ?_
      refine y_k (.slice t79_79.a t79_79.n t79_79.c : Value) w_78 rfl rfl rfl (by kernel_rfl) ?_
      refine y_nil ?_
      refine y_then (hN45 (t79_79) _ _ h ?_)
      dsimp only
      refine upd_id ?_ rfl
      refine upd_id ?_ rfl
      rfl
    · replace h := h.2 (of_decide_eq_false hb63)
      refine y_exit ?_
      repeat (first | refine e_then_x ?_ | refine e_block_y rfl ?_)
      refine e_block_x ?_
      refine y_then (hK42 _ _ ?_)
      refine y_region ?_
      refine y_k (.pointer h0_1 : Value) w_55 rfl rfl rfl (by kernel_rfl) ?_
      refine y_k (.pointer h0_1 : Value) w_55 rfl rfl rfl (by kernel_rfl) ?_
      obtain ⟨a_80, hx58, h⟩ := h
      refine y_k (.pointer (some a_80) : Value) w_55 rfl rfl rfl (run_nilCheck hx58 rfl) ?_
      refine y_k (.pointer (some (a_80.add 72)) : Value) w_55 rfl rfl rfl (by kernel_rfl) ?_
      obtain ⟨t97_81, hx59, h⟩ := h
      refine y_v (s := Instr.loadAt 33 (.pointer (some (a_80.add 72)))) rfl rfl rfl (by kernel_rfl) (rn_load (by kernel_rfl) hx59) ?_
      refine y_k (.slice b1_54.a b1_54.n b1_54.c : Value) w_55 rfl rfl rfl (by kernel_rfl) ?_
      obtain ⟨t99_82, w_83, hx60, h⟩ := h
      refine y_v (s := Builtin.append_ #[33, 33] 33 #[.slice t97_81.a t97_81.n t97_81.c, .slice b1_54.a b1_54.n b1_54.c]) rfl rfl rfl (by kernel_rfl) hx60 ?_
      obtain ⟨a_84, hx61, h⟩ := h
      refine y_k (.pointer (some a_84) : Value) w_83 rfl rfl rfl (run_nilCheck hx61 rfl) ?_
      refine y_k (.pointer (some (a_84.add 72)) : Value) w_83 rfl rfl rfl (by kernel_rfl) ?_
      obtain ⟨hx62, h⟩ := h
      replace h := h _ rfl
      refine y_u (s := Instr.storeAt 33 (.pointer (some (a_84.add 72))) (.slice t99_82.a t99_82.n t99_82.c : Value)) rfl rfl (by kernel_rfl) (rn_store1 (by kernel_rfl) rfl hx62) ?_
      generalize w_83.setCell (a_84.add 72) (.slice t99_82.a t99_82.n t99_82.c : Value) = w_85 at h ⊢
      refine y_nil ?_
      exact (hQ0 _ _ _ (res0 rfl) ⟨rfl, h⟩).2
  refine y_seq fun K8 hK8 => ?_
  refine y_region ?_
  refine y_k (.pointer h0_1 : Value) w_7 rfl rfl rfl (by kernel_rfl) ?_
  obtain ⟨a_8, hx9, h⟩ := h
  refine y_k (.pointer (some a_8) : Value) w_7 rfl rfl rfl (run_nilCheck hx9 rfl) ?_
  refine y_k (.pointer (some (a_8.add 72)) : Value) w_7 rfl rfl rfl (by kernel_rfl) ?_
  obtain ⟨t20_9, hx10, h⟩ := h
  refine y_v (s := Instr.loadAt 33 (.pointer (some (a_8.add 72)))) rfl rfl rfl (by kernel_rfl) (rn_load (by kernel_rfl) hx10) ?_
  refine y_k (.int .i64 ((t20_9.n : Int)) : Value) w_7 rfl rfl rfl (by kernel_rfl) ?_
  refine y_k (.bool (decide (((t20_9.n : Int)) > 0)) : Value) w_7 rfl rfl rfl (by kernel_rfl) ?_
  refine y_nil ?_
  refine y_then (hK8 _ _ ?_)
  refine y_cond (decide (((t20_9.n : Int)) > 0)) rfl rfl (fun hb65 => ?_) (fun hb65 => ?_)
  · replace h := h.1 (of_decide_eq_true hb65)
    refine y_seq fun K11 hK11 => ?_
    refine y_region ?_
    refine y_k (.pointer h0_1 : Value) w_7 rfl rfl rfl (by kernel_rfl) ?_
    obtain ⟨a_10, hx12, h⟩ := h
    refine y_k (.pointer (some a_10) : Value) w_7 rfl rfl rfl (run_nilCheck hx12 rfl) ?_
    refine y_k (.pointer (some (a_10.add 72)) : Value) w_7 rfl rfl rfl (by kernel_rfl) ?_
    obtain ⟨t26_11, hx13, h⟩ := h
    refine y_v (s := Instr.loadAt 33 (.pointer (some (a_10.add 72)))) rfl rfl rfl (by kernel_rfl) (rn_load (by kernel_rfl) hx13) ?_
    refine y_k (.int .i64 ((t26_11.n : Int)) : Value) w_7 rfl rfl rfl (by kernel_rfl) ?_
    refine y_k (.int .i64 (IntKind.i64.wrap (64 - ((t26_11.n : Int)))) : Value) w_7 rfl rfl rfl (by kernel_rfl) ?_
    refine y_k (.slice b1_2.a b1_2.n b1_2.c : Value) w_7 rfl rfl rfl (by kernel_rfl) ?_
    refine y_k (.int .i64 ((b1_2.n : Int)) : Value) w_7 rfl rfl rfl (by kernel_rfl) ?_
    refine y_v (v := (.int .i64 ((if ((b1_2.n : Int)) < (IntKind.i64.wrap (64 - ((t26_11.n : Int)))) then ((b1_2.n : Int)) else (IntKind.i64.wrap (64 - ((t26_11.n : Int)))))) : Value)) (s := Builtin.min_ #[3, 3] 3 #[.int .i64 (IntKind.i64.wrap (64 - ((t26_11.n : Int)))), .int .i64 ((b1_2.n : Int))]) rfl rfl rfl (by kernel_rfl) (run_min2) ?_
    refine y_k (.int .i64 ((if ((b1_2.n : Int)) < (IntKind.i64.wrap (64 - ((t26_11.n : Int)))) then ((b1_2.n : Int)) else (IntKind.i64.wrap (64 - ((t26_11.n : Int)))))) : Value) w_7 rfl rfl rfl (by kernel_rfl) ?_
    refine y_nil ?_
    refine y_then (hK11 _ _ ?_)
    refine y_seq fun K14 hK14 => ?_
    obtain ⟨w_12, hwd15⟩ : ∃ wd : World, wd = w_7.drew := ⟨_, rfl⟩
    replace h := h _ hwd15
    refine t_region (wd := w_12) [] (by kernel_rfl) hwd15 SF_nil fun Q15 hE15 hp15 hS => ?_
    clear hwd15
    refine t_kw hp15 hS 0 (.pointer h0_1 : Value) rfl (wanted_none rfl) rfl rfl (by kernel_rfl) (fun _ _ => by kernel_rfl) fun hS => ?_
    refine t_kw hp15 hS 1 (.pointer h0_1 : Value) rfl (wanted_none rfl) rfl rfl (by kernel_rfl) (fun _ _ => by kernel_rfl) fun hS => ?_
    obtain ⟨a_13, hx16, h⟩ := h
    refine t_kw hp15 hS 2 (.pointer (some a_13) : Value) rfl (wanted_none rfl) rfl rfl (by kernel_rfl) (fun _ _ => run_nilCheck hx16 rfl) fun hS => ?_
    refine t_kw hp15 hS 3 (.pointer (some (a_13.add 72)) : Value) rfl (wanted_none rfl) rfl rfl (by kernel_rfl) (fun _ _ => by kernel_rfl) fun hS => ?_
    obtain ⟨t36_14, hx17, h⟩ := h
    refine t_add ⟨4, [8, 11], fun wx => wx.cell? (a_13.add 72) = some (.slice t36_14.a t36_14.n t36_14.c)⟩ ?_
    replace hS := SF_on (x := ⟨4, [8, 11], fun wx => wx.cell? (a_13.add 72) = some (.slice t36_14.a t36_14.n t36_14.c)⟩) hx17 hS
    refine t_v (s := Instr.loadAt 33 (.pointer (some (a_13.add 72)))) hp15 hS 4 (.slice t36_14.a t36_14.n t36_14.c : Value) rfl (wanted_none rfl) rfl rfl (by kernel_rfl) (by kernel_rfl) (fun _ hw => rn_load (by kernel_rfl) (Sw.fact (List.Mem.head _) rfl hw)) fun hS => ?_
    refine t_kw hp15 hS 5 (.slice b1_2.a b1_2.n b1_2.c : Value) rfl (wanted_none rfl) rfl rfl (by kernel_rfl) (fun _ _ => by kernel_rfl) fun hS => ?_
    refine t_kw hp15 hS 6 (.int .i64 ((if ((b1_2.n : Int)) < (IntKind.i64.wrap (64 - ((t26_11.n : Int)))) then ((b1_2.n : Int)) else (IntKind.i64.wrap (64 - ((t26_11.n : Int)))))) : Value) rfl (wanted_none rfl) rfl rfl (by kernel_rfl) (fun _ _ => by kernel_rfl) fun hS => ?_
    obtain ⟨t39_15, hx18, h⟩ := h
    refine t_add ⟨7, [8, 11], fun wx => (Instr.sliceAt 33 (.slice b1_2.a b1_2.n b1_2.c : Value) none (some (.int .i64 ((if ((b1_2.n : Int)) < (IntKind.i64.wrap (64 - ((t26_11.n : Int)))) then ((b1_2.n : Int)) else (IntKind.i64.wrap (64 - ((t26_11.n : Int)))))) : Value)) none).run Try.prog wx = .ok (.slice t39_15.a t39_15.n t39_15.c : Value) wx⟩ ?_
    replace hS := SF_on (x := ⟨7, [8, 11], fun wx => (Instr.sliceAt 33 (.slice b1_2.a b1_2.n b1_2.c : Value) none (some (.int .i64 ((if ((b1_2.n : Int)) < (IntKind.i64.wrap (64 - ((t26_11.n : Int)))) then ((b1_2.n : Int)) else (IntKind.i64.wrap (64 - ((t26_11.n : Int)))))) : Value)) none).run Try.prog wx = .ok (.slice t39_15.a t39_15.n t39_15.c : Value) wx⟩) hx18 hS
    refine t_v (s := Instr.sliceAt 33 (.slice b1_2.a b1_2.n b1_2.c : Value) none (some (.int .i64 ((if ((b1_2.n : Int)) < (IntKind.i64.wrap (64 - ((t26_11.n : Int)))) then ((b1_2.n : Int)) else (IntKind.i64.wrap (64 - ((t26_11.n : Int)))))) : Value)) none) hp15 hS 7 (.slice t39_15.a t39_15.n t39_15.c : Value) rfl (wanted_none rfl) rfl rfl (by kernel_rfl) (by kernel_rfl) (fun _ hw => (Sw.fact (List.Mem.head _) rfl hw)) fun hS => ?_
    obtain ⟨t40_16, w_17, hx19, h⟩ := h
    refine t_w 8 (s := Builtin.append_ #[33, 33] 33 #[.slice t36_14.a t36_14.n t36_14.c, .slice t39_15.a t39_15.n t39_15.c]) (by kernel_rfl) rfl (wanted_none rfl) rfl rfl (by kernel_rfl) hx19 (SF_off (by kernel_rfl) (by kernel_rfl) (SF_off (by kernel_rfl) (by kernel_rfl) SF_nil)) fun hS => ?_
    obtain ⟨a_18, hx20, h⟩ := h
    refine t_kw hp15 hS 9 (.pointer (some a_18) : Value) rfl (wanted_none rfl) rfl rfl (by kernel_rfl) (fun _ _ => run_nilCheck hx20 rfl) fun hS => ?_
    refine t_kw hp15 hS 10 (.pointer (some (a_18.add 72)) : Value) rfl (wanted_none rfl) rfl rfl (by kernel_rfl) (fun _ _ => by kernel_rfl) fun hS => ?_
    obtain ⟨hx21, h⟩ := h
    replace h := h _ rfl
    refine t_u 11 (s := Instr.storeAt 33 (.pointer (some (a_18.add 72))) (.slice t40_16.a t40_16.n t40_16.c : Value)) (by kernel_rfl) rfl (wanted_none rfl) rfl (by kernel_rfl) (rn_store1 (by kernel_rfl) rfl hx21) (SF_off (by kernel_rfl) (by kernel_rfl) (SF_off (by kernel_rfl) (by kernel_rfl) SF_nil)) fun hS => ?_
    generalize w_17.setCell (a_18.add 72) (.slice t40_16.a t40_16.n t40_16.c : Value) = w_19 at hS h ⊢
    refine t_done (by kernel_rfl) (hE15 _ _ ?_)
    refine y_then (hK14 _ _ ?_)
    refine y_seq fun K22 hK22 => ?_
    refine y_region ?_
    refine y_k (.slice b1_2.a b1_2.n b1_2.c : Value) w_19 rfl rfl rfl (by kernel_rfl) ?_
    refine y_k (.int .i64 ((if ((b1_2.n : Int)) < (IntKind.i64.wrap (64 - ((t26_11.n : Int)))) then ((b1_2.n : Int)) else (IntKind.i64.wrap (64 - ((t26_11.n : Int)))))) : Value) w_19 rfl rfl rfl (by kernel_rfl) ?_
    obtain ⟨t45_20, hx23, h⟩ := h
    refine y_v (s := Instr.sliceAt 33 (.slice b1_2.a b1_2.n b1_2.c : Value) (some (.int .i64 ((if ((b1_2.n : Int)) < (IntKind.i64.wrap (64 - ((t26_11.n : Int)))) then ((b1_2.n : Int)) else (IntKind.i64.wrap (64 - ((t26_11.n : Int)))))) : Value)) none none) rfl rfl rfl (by kernel_rfl) (hx23) ?_
    refine y_k (.slice t45_20.a t45_20.n t45_20.c : Value) w_19 rfl rfl rfl (by kernel_rfl) ?_
    refine y_nil ?_
    refine y_then (hK22 _ _ ?_)
    refine y_seq fun K24 hK24 => ?_
    refine y_seq fun K25 hK25 => ?_
    refine y_region ?_
    refine y_k (.pointer h0_1 : Value) w_19 rfl rfl rfl (by kernel_rfl) ?_
    obtain ⟨a_21, hx26, h⟩ := h
    refine y_k (.pointer (some a_21) : Value) w_19 rfl rfl rfl (run_nilCheck hx26 rfl) ?_
    refine y_k (.pointer (some (a_21.add 72)) : Value) w_19 rfl rfl rfl (by kernel_rfl) ?_
    obtain ⟨t49_22, hx27, h⟩ := h
    refine y_v (s := Instr.loadAt 33 (.pointer (some (a_21.add 72)))) rfl rfl rfl (by kernel_rfl) (rn_load (by kernel_rfl) hx27) ?_
    refine y_k (.int .i64 ((t49_22.n : Int)) : Value) w_19 rfl rfl rfl (by kernel_rfl) ?_
    refine y_k (.bool (decide (((t49_22.n : Int)) < 64)) : Value) w_19 rfl rfl rfl (by kernel_rfl) ?_
    refine y_nil ?_
    refine y_then (hK25 _ _ ?_)
    refine y_cond (decide (((t49_22.n : Int)) < 64)) rfl rfl (fun hb64 => ?_) (fun hb64 => ?_)
    · replace h := h.1 (of_decide_eq_true hb64)
      refine y_ret ?_
      repeat (first | refine e_then_r ?_ | refine e_block_r ?_)
      exact (hQ0 _ _ _ (res0 rfl) ⟨rfl, h⟩).1
    · replace h := h.2 (of_decide_eq_false hb64)
      refine y_skip ?_
      refine y_then (hK24 _ _ ?_)
      refine y_seq fun K28 hK28 => ?_
      obtain ⟨w_23, hwd29⟩ : ∃ wd : World, wd = w_19.drew := ⟨_, rfl⟩
      replace h := h _ hwd29
      refine t_region (wd := w_23) [] (by kernel_rfl) hwd29 SF_nil fun Q29 hE29 hp29 hS => ?_
      clear hwd29
      refine t_kw hp29 hS 0 (.pointer h0_1 : Value) rfl (wanted_none rfl) rfl rfl (by kernel_rfl) (fun _ _ => by kernel_rfl) fun hS => ?_
      refine t_kw hp29 hS 1 (.pointer h0_1 : Value) rfl (wanted_none rfl) rfl rfl (by kernel_rfl) (fun _ _ => by kernel_rfl) fun hS => ?_
      obtain ⟨a_24, hx30, h⟩ := h
      refine t_kw hp29 hS 2 (.pointer (some a_24) : Value) rfl (wanted_none rfl) rfl rfl (by kernel_rfl) (fun _ _ => run_nilCheck hx30 rfl) fun hS => ?_
      refine t_kw hp29 hS 3 (.pointer (some a_24) : Value) rfl (wanted_none rfl) rfl rfl (by kernel_rfl) (fun _ _ => by kernel_rfl) fun hS => ?_
      obtain ⟨t56_25, t56_26, t56_27, t56_28, t56_29, t56_30, t56_31, t56_32, hx31, h⟩ := h
      refine t_add ⟨4, [12, 15], fun wx => CellsAt wx a_24 0 [.int .u32 t56_25, .int .u32 t56_26, .int .u32 t56_27, .int .u32 t56_28, .int .u32 t56_29, .int .u32 t56_30, .int .u32 t56_31, .int .u32 t56_32]⟩ ?_
      replace hS := SF_on (x := ⟨4, [12, 15], fun wx => CellsAt wx a_24 0 [.int .u32 t56_25, .int .u32 t56_26, .int .u32 t56_27, .int .u32 t56_28, .int .u32 t56_29, .int .u32 t56_30, .int .u32 t56_31, .int .u32 t56_32]⟩) hx31 hS
      refine t_v (s := Instr.loadAt 94 (.pointer (some a_24))) hp29 hS 4 (.agg #[.int .u32 t56_25, .int .u32 t56_26, .int .u32 t56_27, .int .u32 t56_28, .int .u32 t56_29, .int .u32 t56_30, .int .u32 t56_31, .int .u32 t56_32] : Value) rfl (wanted_none rfl) rfl rfl (by kernel_rfl) (by kernel_rfl) (fun _ hw => rn_loadcells (k := 8) ⟨by kernel_rfl, by kernel_rfl⟩ rfl (Sw.fact (List.Mem.head _) rfl hw)) fun hS => ?_
      refine t_kw hp29 hS 5 (.pointer h0_1 : Value) rfl (wanted_none rfl) rfl rfl (by kernel_rfl) (fun _ _ => by kernel_rfl) fun hS => ?_
      obtain ⟨a_33, hx32, h⟩ := h
      refine t_kw hp29 hS 6 (.pointer (some a_33) : Value) rfl (wanted_none rfl) rfl rfl (by kernel_rfl) (fun _ _ => run_nilCheck hx32 rfl) fun hS => ?_
      refine t_kw hp29 hS 7 (.pointer (some (a_33.add 8)) : Value) rfl (wanted_none rfl) rfl rfl (by kernel_rfl) (fun _ _ => by kernel_rfl) fun hS => ?_
      refine t_kw hp29 hS 8 (.pointer h0_1 : Value) rfl (wanted_none rfl) rfl rfl (by kernel_rfl) (fun _ _ => by kernel_rfl) fun hS => ?_
      obtain ⟨a_34, hx33, h⟩ := h
      refine t_kw hp29 hS 9 (.pointer (some a_34) : Value) rfl (wanted_none rfl) rfl rfl (by kernel_rfl) (fun _ _ => run_nilCheck hx33 rfl) fun hS => ?_
      refine t_kw hp29 hS 10 (.pointer (some (a_34.add 72)) : Value) rfl (wanted_none rfl) rfl rfl (by kernel_rfl) (fun _ _ => by kernel_rfl) fun hS => ?_
      obtain ⟨t63_35, hx34, h⟩ := h
      refine t_add ⟨11, [12, 15], fun wx => wx.cell? (a_34.add 72) = some (.slice t63_35.a t63_35.n t63_35.c)⟩ ?_
      replace hS := SF_on (x := ⟨11, [12, 15], fun wx => wx.cell? (a_34.add 72) = some (.slice t63_35.a t63_35.n t63_35.c)⟩) hx34 hS
      refine t_v (s := Instr.loadAt 33 (.pointer (some (a_34.add 72)))) hp29 hS 11 (.slice t63_35.a t63_35.n t63_35.c : Value) rfl (wanted_none rfl) rfl rfl (by kernel_rfl) (by kernel_rfl) (fun _ hw => rn_load (by kernel_rfl) (Sw.fact (List.Mem.head _) rfl hw)) fun hS => ?_
      refine t_call 12 (by kernel_rfl) rfl (wanted_none rfl) rfl rfl (by kernel_rfl) (h.mono ?_)
      rintro _ w_44 ⟨t64_36, t64_37, t64_38, t64_39, t64_40, t64_41, t64_42, t64_43, rfl, h⟩
      refine ⟨_, rfl, (SF_off (by kernel_rfl) (by kernel_rfl) (SF_off (by kernel_rfl) (by kernel_rfl) SF_nil)), fun hS => ?_⟩
      obtain ⟨a_45, hx35, h⟩ := h
      refine t_kw hp29 hS 13 (.pointer (some a_45) : Value) rfl (wanted_none rfl) rfl rfl (by kernel_rfl) (fun _ _ => run_nilCheck hx35 rfl) fun hS => ?_
      refine t_kw hp29 hS 14 (.pointer (some a_45) : Value) rfl (wanted_none rfl) rfl rfl (by kernel_rfl) (fun _ _ => by kernel_rfl) fun hS => ?_
      obtain ⟨hx36, h⟩ := h
      replace h := h _ rfl
      refine t_u 15 (s := Instr.storeAt 94 (.pointer (some a_45)) (.agg #[.int .u32 t64_36, .int .u32 t64_37, .int .u32 t64_38, .int .u32 t64_39, .int .u32 t64_40, .int .u32 t64_41, .int .u32 t64_42, .int .u32 t64_43] : Value)) (by kernel_rfl) rfl (wanted_none rfl) rfl (by kernel_rfl) (rn_storecells (k := 8) (cs := [.int .u32 t64_36, .int .u32 t64_37, .int .u32 t64_38, .int .u32 t64_39, .int .u32 t64_40, .int .u32 t64_41, .int .u32 t64_42, .int .u32 t64_43]) (by kernel_rfl) rfl (by simp [Value.oneCell']) hx36) (SF_off (by kernel_rfl) (by kernel_rfl) (SF_off (by kernel_rfl) (by kernel_rfl) SF_nil)) fun hS => ?_
      generalize setCells w_44 a_45 0 [.int .u32 t64_36, .int .u32 t64_37, .int .u32 t64_38, .int .u32 t64_39, .int .u32 t64_40, .int .u32 t64_41, .int .u32 t64_42, .int .u32 t64_43] = w_46 at hS h ⊢
      refine t_done (by kernel_rfl) (hE29 _ _ ?_)
      refine y_then (hK28 _ _ ?_)
      refine y_region ?_
      refine y_k (.pointer h0_1 : Value) w_46 rfl rfl rfl (by kernel_rfl) ?_
      refine y_k (.pointer h0_1 : Value) w_46 rfl rfl rfl (by kernel_rfl) ?_
      obtain ⟨a_47, hx37, h⟩ := h
      refine y_k (.pointer (some a_47) : Value) w_46 rfl rfl rfl (run_nilCheck hx37 rfl) ?_
      refine y_k (.pointer (some (a_47.add 72)) : Value) w_46 rfl rfl rfl (by kernel_rfl) ?_
      obtain ⟨t71_48, hx38, h⟩ := h
      refine y_v (s := Instr.loadAt 33 (.pointer (some (a_47.add 72)))) rfl rfl rfl (by kernel_rfl) (rn_load (by kernel_rfl) hx38) ?_
      obtain ⟨t72_49, hx39, h⟩ := h
      refine y_v (s := Instr.sliceAt 33 (.slice t71_48.a t71_48.n t71_48.c : Value) none (some (.int .i64 0 : Value)) none) rfl rfl rfl (by kernel_rfl) (hx39) ?_
      obtain ⟨a_50, hx40, h⟩ := h
      refine y_k (.pointer (some a_50) : Value) w_46 rfl rfl rfl (run_nilCheck hx40 rfl) ?_
      refine y_k (.pointer (some (a_50.add 72)) : Value) w_46 rfl rfl rfl (by kernel_rfl) ?_
      obtain ⟨hx41, h⟩ := h
      replace h := h _ rfl
      refine y_u (s := Instr.storeAt 33 (.pointer (some (a_50.add 72))) (.slice t72_49.a t72_49.n t72_49.c : Value)) rfl rfl (by kernel_rfl) (rn_store1 (by kernel_rfl) rfl hx41) ?_
      generalize w_46.setCell (a_50.add 72) (.slice t72_49.a t72_49.n t72_49.c : Value) = w_51 at h ⊢
      refine y_nil ?_
      exact y_then (hjK7 _ t45_20 w_51 rfl rfl h)
  · replace h := h.2 (of_decide_eq_false hb65)
    refine y_skip ?_
    exact y_then (hjK7 _ b1_2 w_7 rfl rfl h)

def F49_l4 (K : Value → World → Prop) (w : World) (w_38 : World) (t58_62 : Int) (t58_63 : Int) (t58_64 : Int) (t58_65 : Int) (t58_66 : Int) (t58_67 : Int) (t58_68 : Int) (t58_69 : Int) (next54 : (Int) → World → Prop) : (Int) → World → Prop := fun (t59_70) w_71 =>
  ((t59_70 < 8 →
  ∃ (t62_72 : Int), (Instr.index 94 (.agg #[.int .u32 t58_62, .int .u32 t58_63, .int .u32 t58_64, .int .u32 t58_65, .int .u32 t58_66, .int .u32 t58_67, .int .u32 t58_68, .int .u32 t58_69] : Value) (.int .i64 t59_70 : Value)).run Try.prog w_71 = .ok (.int .u32 t62_72 : Value) w_71 ∧
  (0 : Int) ≤ (IntKind.i64.wrap (4 * t59_70)) ∧ (IntKind.i64.wrap (4 * t59_70)) < 32 ∧
  HasCell w_71 ((⟨w_38.heap.size, 0, none⟩ : Addr).add (Int.toNat (IntKind.i64.wrap (4 * t59_70)))) ∧ ∀ (w_73 : World), w_73 = w_71.setCell ((⟨w_38.heap.size, 0, none⟩ : Addr).add (Int.toNat (IntKind.i64.wrap (4 * t59_70)))) (.int .u8 (IntKind.u8.wrap (Int.fdiv t62_72 (2 ^ 24))) : Value) →
  (0 : Int) ≤ (IntKind.i64.wrap ((IntKind.i64.wrap (4 * t59_70)) + 1)) ∧ (IntKind.i64.wrap ((IntKind.i64.wrap (4 * t59_70)) + 1)) < 32 ∧
  HasCell w_73 ((⟨w_38.heap.size, 0, none⟩ : Addr).add (Int.toNat (IntKind.i64.wrap ((IntKind.i64.wrap (4 * t59_70)) + 1)))) ∧ ∀ (w_74 : World), w_74 = w_73.setCell ((⟨w_38.heap.size, 0, none⟩ : Addr).add (Int.toNat (IntKind.i64.wrap ((IntKind.i64.wrap (4 * t59_70)) + 1)))) (.int .u8 (IntKind.u8.wrap (Int.fdiv t62_72 (2 ^ 16))) : Value) →
  (0 : Int) ≤ (IntKind.i64.wrap ((IntKind.i64.wrap (4 * t59_70)) + 2)) ∧ (IntKind.i64.wrap ((IntKind.i64.wrap (4 * t59_70)) + 2)) < 32 ∧
  HasCell w_74 ((⟨w_38.heap.size, 0, none⟩ : Addr).add (Int.toNat (IntKind.i64.wrap ((IntKind.i64.wrap (4 * t59_70)) + 2)))) ∧ ∀ (w_75 : World), w_75 = w_74.setCell ((⟨w_38.heap.size, 0, none⟩ : Addr).add (Int.toNat (IntKind.i64.wrap ((IntKind.i64.wrap (4 * t59_70)) + 2)))) (.int .u8 (IntKind.u8.wrap (Int.fdiv t62_72 (2 ^ 8))) : Value) →
  (0 : Int) ≤ (IntKind.i64.wrap ((IntKind.i64.wrap (4 * t59_70)) + 3)) ∧ (IntKind.i64.wrap ((IntKind.i64.wrap (4 * t59_70)) + 3)) < 32 ∧
  HasCell w_75 ((⟨w_38.heap.size, 0, none⟩ : Addr).add (Int.toNat (IntKind.i64.wrap ((IntKind.i64.wrap (4 * t59_70)) + 3)))) ∧ ∀ (w_76 : World), w_76 = w_75.setCell ((⟨w_38.heap.size, 0, none⟩ : Addr).add (Int.toNat (IntKind.i64.wrap ((IntKind.i64.wrap (4 * t59_70)) + 3)))) (.int .u8 (IntKind.u8.wrap t62_72) : Value) →
  next54 (IntKind.i64.wrap (t59_70 + 1)) w_76) ∧
  (¬ (t59_70 < 8) →
  ∃ (t90_77 : Value), (Instr.loadAt 50 (.pointer (some (⟨w_38.heap.size, 0, none⟩ : Addr)))).run Try.prog w_71 = .ok t90_77 w_71 ∧
  ∃ (w_78 : World), (Instr.storeAt 50 (.pointer (some (⟨w.heap.size, 0, none⟩ : Addr))) t90_77).run Try.prog w_71 = .ok () w_78 ∧
  ∃ (r0_79 : Value), (Instr.loadAt 50 (.pointer (some (⟨w.heap.size, 0, none⟩ : Addr)))).run Try.prog w_78 = .ok r0_79 w_78 ∧
  K r0_79 w_78))
def F49_l3 (h0_1 : Option Addr) (K : Value → World → Prop) (w : World) (w_20 : World) (next37 : (Sl) → World → Prop) : (Sl) → World → Prop := fun (end3_37) w_38 =>
  ((((end3_37.n : Int)) > 0 →
  ∀ (w_39 : World), w_39 = w_38.drew →
  ∃ (t51_40 : Int), ∃ (t51_41 : Int), ∃ (t51_42 : Int), ∃ (t51_43 : Int), ∃ (t51_44 : Int), ∃ (t51_45 : Int), ∃ (t51_46 : Int), ∃ (t51_47 : Int), CellsAt w_39 (⟨w_20.heap.size, 0, none⟩ : Addr) 0 [.int .u32 t51_40, .int .u32 t51_41, .int .u32 t51_42, .int .u32 t51_43, .int .u32 t51_44, .int .u32 t51_45, .int .u32 t51_46, .int .u32 t51_47] ∧
  ∃ (a_48 : Addr), h0_1 = some a_48 ∧
  ∃ (t56_49 : Sl), (Instr.sliceAt 33 (.slice end3_37.a end3_37.n end3_37.c : Value) none (some (.int .i64 64 : Value)) none).run Try.prog w_39 = .ok (.slice t56_49.a t56_49.n t56_49.c : Value) w_39 ∧
  Calls Try.prog 79 #[.agg #[.int .u32 t51_40, .int .u32 t51_41, .int .u32 t51_42, .int .u32 t51_43, .int .u32 t51_44, .int .u32 t51_45, .int .u32 t51_46, .int .u32 t51_47], .pointer (some (a_48.add 8)), .slice t56_49.a t56_49.n t56_49.c] w_39 fun e w_58 => ∃ (t57_50 : Int), ∃ (t57_51 : Int), ∃ (t57_52 : Int), ∃ (t57_53 : Int), ∃ (t57_54 : Int), ∃ (t57_55 : Int), ∃ (t57_56 : Int), ∃ (t57_57 : Int), e = .returned (.agg #[.int .u32 t57_50, .int .u32 t57_51, .int .u32 t57_52, .int .u32 t57_53, .int .u32 t57_54, .int .u32 t57_55, .int .u32 t57_56, .int .u32 t57_57] : Value) ∧ 
  HasCells w_58 (⟨w_20.heap.size, 0, none⟩ : Addr) 0 8 ∧ ∀ (w_59 : World), w_59 = setCells w_58 (⟨w_20.heap.size, 0, none⟩ : Addr) 0 [.int .u32 t57_50, .int .u32 t57_51, .int .u32 t57_52, .int .u32 t57_53, .int .u32 t57_54, .int .u32 t57_55, .int .u32 t57_56, .int .u32 t57_57] → 
  ∃ (t50_60 : Sl), (Instr.sliceAt 33 (.slice end3_37.a end3_37.n end3_37.c : Value) (some (.int .i64 64 : Value)) none none).run Try.prog w_59 = .ok (.slice t50_60.a t50_60.n t50_60.c : Value) w_59 ∧
  next37 (t50_60) w_59) ∧
  (¬ (((end3_37.n : Int)) > 0) →
  ∀ (w_61 : World), w_61 = w_38.alloc (.cells #[.int .u8 0, .int .u8 0, .int .u8 0, .int .u8 0, .int .u8 0, .int .u8 0, .int .u8 0, .int .u8 0, .int .u8 0, .int .u8 0, .int .u8 0, .int .u8 0, .int .u8 0, .int .u8 0, .int .u8 0, .int .u8 0, .int .u8 0, .int .u8 0, .int .u8 0, .int .u8 0, .int .u8 0, .int .u8 0, .int .u8 0, .int .u8 0, .int .u8 0, .int .u8 0, .int .u8 0, .int .u8 0, .int .u8 0, .int .u8 0, .int .u8 0, .int .u8 0] 50) →
  ∃ (t58_62 : Int), ∃ (t58_63 : Int), ∃ (t58_64 : Int), ∃ (t58_65 : Int), ∃ (t58_66 : Int), ∃ (t58_67 : Int), ∃ (t58_68 : Int), ∃ (t58_69 : Int), CellsAt w_61 (⟨w_20.heap.size, 0, none⟩ : Addr) 0 [.int .u32 t58_62, .int .u32 t58_63, .int .u32 t58_64, .int .u32 t58_65, .int .u32 t58_66, .int .u32 t58_67, .int .u32 t58_68, .int .u32 t58_69] ∧
  kLoop (F49_l4 K w w_38 t58_62 t58_63 t58_64 t58_65 t58_66 t58_67 t58_68 t58_69) (0) w_61))
def F49_l2 (h0_1 : Option Addr) (K : Value → World → Prop) (w : World) (next21 : (Sl × Int) → World → Prop) : (Sl × Int) → World → Prop := fun (end3_18, i4_19) w_20 =>
  ((i4_19 ≥ 0 →
  ∃ (a_21 : Addr), h0_1 = some a_21 ∧
  ∃ (t35_22 : Int), w_20.cell? (a_21.add 73) = some (.int .u64 t35_22) ∧
  (0 : Int) ≤ i4_19 ∧
  ∀ (w_23 : World), w_23 = w_20.alloc (.cells #[.int .u8 (IntKind.u8.wrap (ishr .u64 (IntKind.u64.wrap (8 * t35_22)) i4_19))] 5) →
  ∃ (t41_24 : Sl), ∃ (w_25 : World), (Builtin.append_ #[33, 33] 33 #[.slice end3_18.a end3_18.n end3_18.c, .slice (some ⟨w_20.heap.size, 0, none⟩) 1 1]).run Try.prog w_23 = .ok (.slice t41_24.a t41_24.n t41_24.c : Value) w_25 ∧
  next21 (t41_24, IntKind.i64.wrap (i4_19 - 8)) w_25) ∧
  (¬ (i4_19 ≥ 0) →
  ∃ (a_26 : Addr), h0_1 = some a_26 ∧
  ∃ (t45_27 : Int), ∃ (t45_28 : Int), ∃ (t45_29 : Int), ∃ (t45_30 : Int), ∃ (t45_31 : Int), ∃ (t45_32 : Int), ∃ (t45_33 : Int), ∃ (t45_34 : Int), CellsAt w_20 a_26 0 [.int .u32 t45_27, .int .u32 t45_28, .int .u32 t45_29, .int .u32 t45_30, .int .u32 t45_31, .int .u32 t45_32, .int .u32 t45_33, .int .u32 t45_34] ∧
  ∀ (w_35 : World), w_35 = w_20.alloc (.cells #[.int .u32 0, .int .u32 0, .int .u32 0, .int .u32 0, .int .u32 0, .int .u32 0, .int .u32 0, .int .u32 0] 94) →
  HasCells w_35 (⟨w_20.heap.size, 0, none⟩ : Addr) 0 8 ∧ ∀ (w_36 : World), w_36 = setCells w_35 (⟨w_20.heap.size, 0, none⟩ : Addr) 0 [.int .u32 t45_27, .int .u32 t45_28, .int .u32 t45_29, .int .u32 t45_30, .int .u32 t45_31, .int .u32 t45_32, .int .u32 t45_33, .int .u32 t45_34] →
  kLoop (F49_l3 h0_1 K w w_20) (end3_18) w_36))
def F49_l1 (h0_1 : Option Addr) (K : Value → World → Prop) (w : World) (next12 : (Sl) → World → Prop) : (Sl) → World → Prop := fun (end3_13) w_14 =>
  ((¬ ((Int.tmod ((end3_13.n : Int)) 64)) = 56 →
  ∀ (w_15 : World), w_15 = w_14.alloc (.cells #[.int .u8 0] 5) →
  ∃ (t26_16 : Sl), ∃ (w_17 : World), (Builtin.append_ #[33, 33] 33 #[.slice end3_13.a end3_13.n end3_13.c, .slice (some ⟨w_14.heap.size, 0, none⟩) 1 1]).run Try.prog w_15 = .ok (.slice t26_16.a t26_16.n t26_16.c : Value) w_17 ∧
  next12 (t26_16) w_17) ∧
  (((Int.tmod ((end3_13.n : Int)) 64)) = 56 →
  kLoop (F49_l2 h0_1 K w) (end3_13, 56) w_14))
/-- (*turnkey/sum.Hash).Sum -/
def F49 (h0_1 : Option Addr) (K : Value → World → Prop) (w : World) : Prop :=
  ∀ (w_2 : World), w_2 = w.alloc (.cells #[.int .u8 0, .int .u8 0, .int .u8 0, .int .u8 0, .int .u8 0, .int .u8 0, .int .u8 0, .int .u8 0, .int .u8 0, .int .u8 0, .int .u8 0, .int .u8 0, .int .u8 0, .int .u8 0, .int .u8 0, .int .u8 0, .int .u8 0, .int .u8 0, .int .u8 0, .int .u8 0, .int .u8 0, .int .u8 0, .int .u8 0, .int .u8 0, .int .u8 0, .int .u8 0, .int .u8 0, .int .u8 0, .int .u8 0, .int .u8 0, .int .u8 0, .int .u8 0] 50) →
  Calls Try.prog 78 #[.pointer h0_1] w_2 fun e w_3 => e = .returned (.tuple #[] : Value) ∧
  ∃ (t11_4 : Sl), ∃ (w_5 : World), (Instr.makeSlice 33 (.int .i64 0 : Value) (.int .i64 128 : Value)).run Try.prog w_3 = .ok (.slice t11_4.a t11_4.n t11_4.c : Value) w_5 ∧
  ∃ (a_6 : Addr), h0_1 = some a_6 ∧
  ∃ (t16_7 : Sl), w_5.cell? (a_6.add 72) = some (.slice t16_7.a t16_7.n t16_7.c) ∧
  ∃ (t17_8 : Sl), ∃ (w_9 : World), (Builtin.append_ #[33, 33] 33 #[.slice t11_4.a t11_4.n t11_4.c, .slice t16_7.a t16_7.n t16_7.c]).run Try.prog w_5 = .ok (.slice t17_8.a t17_8.n t17_8.c : Value) w_9 ∧
  ∀ (w_10 : World), w_10 = w_9.alloc (.cells #[.int .u8 128] 5) →
  ∃ (t19_11 : Sl), ∃ (w_12 : World), (Builtin.append_ #[33, 33] 33 #[.slice t17_8.a t17_8.n t17_8.c, .slice (some ⟨w_9.heap.size, 0, none⟩) 1 1]).run Try.prog w_10 = .ok (.slice t19_11.a t19_11.n t19_11.c : Value) w_12 ∧
  kLoop (F49_l1 h0_1 K w) (t19_11) w_12
set_option maxHeartbeats 4000000 in
set_option maxRecDepth 20000 in
theorem F49_sound (h0_1 : Option Addr) (K : Value → World → Prop) (w : World) (h : F49 h0_1 K w) :
    Calls Try.prog 49 #[.pointer h0_1] w (fun e w1 => ∃ (r0 : Value), e = .returned r0 ∧ K r0 w1) := by
  unfold F49 at h
  refine y_enter (n := 91) (args := [.pointer h0_1]) Try.func49 rfl rfl rfl fun Q0 hQ0 => ?_
  refine y_seq fun K1 hK1 => ?_
  refine y_region ?_
  refine y_k (.pointer (some (⟨w.heap.size, 0, none⟩ : Addr)) : Value) (w.alloc (.cells #[.int .u8 0, .int .u8 0, .int .u8 0, .int .u8 0, .int .u8 0, .int .u8 0, .int .u8 0, .int .u8 0, .int .u8 0, .int .u8 0, .int .u8 0, .int .u8 0, .int .u8 0, .int .u8 0, .int .u8 0, .int .u8 0, .int .u8 0, .int .u8 0, .int .u8 0, .int .u8 0, .int .u8 0, .int .u8 0, .int .u8 0, .int .u8 0, .int .u8 0, .int .u8 0, .int .u8 0, .int .u8 0, .int .u8 0, .int .u8 0, .int .u8 0, .int .u8 0] 50)) rfl rfl rfl (by kernel_rfl) ?_
  replace h := h _ rfl
  generalize w.alloc (.cells #[.int .u8 0, .int .u8 0, .int .u8 0, .int .u8 0, .int .u8 0, .int .u8 0, .int .u8 0, .int .u8 0, .int .u8 0, .int .u8 0, .int .u8 0, .int .u8 0, .int .u8 0, .int .u8 0, .int .u8 0, .int .u8 0, .int .u8 0, .int .u8 0, .int .u8 0, .int .u8 0, .int .u8 0, .int .u8 0, .int .u8 0, .int .u8 0, .int .u8 0, .int .u8 0, .int .u8 0, .int .u8 0, .int .u8 0, .int .u8 0, .int .u8 0, .int .u8 0] 50) = w_2 at h ⊢
  refine y_nil ?_
  refine y_then (hK1 _ _ ?_)
  refine y_seq fun K2 hK2 => ?_
  refine y_region ?_
  refine y_k (.pointer h0_1 : Value) w_2 rfl rfl rfl (by kernel_rfl) ?_
  refine y_call rfl rfl rfl (by kernel_rfl) (h.mono ?_)
  rintro _ w_3 ⟨rfl, h⟩
  refine ⟨_, rfl, ?_⟩
  refine y_nil ?_
  refine y_then (hK2 _ _ ?_)
  refine y_seq fun K3 hK3 => ?_
  refine y_region ?_
  obtain ⟨t11_4, w_5, hx4, h⟩ := h
  refine y_v (s := Instr.makeSlice 33 (.int .i64 0 : Value) (.int .i64 128 : Value)) rfl rfl rfl (by kernel_rfl) hx4 ?_
  refine y_k (.slice t11_4.a t11_4.n t11_4.c : Value) w_5 rfl rfl rfl (by kernel_rfl) ?_
  refine y_nil ?_
  refine y_then (hK3 _ _ ?_)
  refine y_seq fun K5 hK5 => ?_
  refine y_region ?_
  refine y_k (.slice t11_4.a t11_4.n t11_4.c : Value) w_5 rfl rfl rfl (by kernel_rfl) ?_
  refine y_k (.pointer h0_1 : Value) w_5 rfl rfl rfl (by kernel_rfl) ?_
  obtain ⟨a_6, hx6, h⟩ := h
  refine y_k (.pointer (some a_6) : Value) w_5 rfl rfl rfl (run_nilCheck hx6 rfl) ?_
  refine y_k (.pointer (some (a_6.add 72)) : Value) w_5 rfl rfl rfl (by kernel_rfl) ?_
  obtain ⟨t16_7, hx7, h⟩ := h
  refine y_v (s := Instr.loadAt 33 (.pointer (some (a_6.add 72)))) rfl rfl rfl (by kernel_rfl) (rn_load (by kernel_rfl) hx7) ?_
  obtain ⟨t17_8, w_9, hx8, h⟩ := h
  refine y_v (s := Builtin.append_ #[33, 33] 33 #[.slice t11_4.a t11_4.n t11_4.c, .slice t16_7.a t16_7.n t16_7.c]) rfl rfl rfl (by kernel_rfl) hx8 ?_
  refine y_k (.slice (some ⟨w_9.heap.size, 0, none⟩) 1 1 : Value) (w_9.alloc (.cells #[.int .u8 128] 5)) rfl rfl rfl (by kernel_rfl) ?_
  replace h := h _ rfl
  generalize w_9.alloc (.cells #[.int .u8 128] 5) = w_10 at h ⊢
  obtain ⟨t19_11, w_12, hx9, h⟩ := h
  refine y_v (s := Builtin.append_ #[33, 33] 33 #[.slice t17_8.a t17_8.n t17_8.c, .slice (some ⟨w_9.heap.size, 0, none⟩) 1 1]) rfl rfl rfl (by kernel_rfl) hx9 ?_
  refine y_k (.slice t19_11.a t19_11.n t19_11.c : Value) w_12 rfl rfl rfl (by kernel_rfl) ?_
  refine y_nil ?_
  refine y_then (hK5 _ _ ?_)
  refine y_seq fun K10 hK10 => ?_
  refine y_block ?_
  refine y_loop (S := Sl) (fun s j => match s with | (end3_13) => upd (upd (upd (j) 0 (.pointer h0_1 : Value)) 2 (.pointer (some (⟨w.heap.size, 0, none⟩ : Addr)) : Value)) 3 (.slice end3_13.a end3_13.n end3_13.c : Value)) (t19_11) ?_ h ?_
  · dsimp only
    refine upd_id ?_ rfl
    refine upd_id ?_ rfl
    refine upd_id ?_ rfl
    rfl
  rintro KN13 next12 hN13 end3_13 j w_14 h
  unfold F49_l1 at h
  refine y_seq fun K14 hK14 => ?_
  refine y_seq fun K15 hK15 => ?_
  refine y_region ?_
  refine y_k (.slice end3_13.a end3_13.n end3_13.c : Value) w_14 rfl rfl rfl (by kernel_rfl) ?_
  refine y_k (.int .i64 ((end3_13.n : Int)) : Value) w_14 rfl rfl rfl (by kernel_rfl) ?_
  refine y_k (.int .i64 (Int.tmod ((end3_13.n : Int)) 64) : Value) w_14 rfl rfl rfl (by kernel_rfl) ?_
  refine y_k (.bool ((((Int.tmod ((end3_13.n : Int)) 64)) != 56)) : Value) w_14 rfl rfl rfl (by kernel_rfl) ?_
  refine y_nil ?_
  refine y_then (hK15 _ _ ?_)
  refine y_cond ((((Int.tmod ((end3_13.n : Int)) 64)) != 56)) rfl rfl (fun hb77 => ?_) (fun hb77 => ?_)
  · replace h := h.1 (bne_iff_ne.mp hb77)
    refine y_skip ?_
    refine y_then (hK14 _ _ ?_)
    refine y_block ?_
    refine y_region ?_
    refine y_k (.slice end3_13.a end3_13.n end3_13.c : Value) w_14 rfl rfl rfl (by kernel_rfl) ?_
    refine y_k (.slice (some ⟨w_14.heap.size, 0, none⟩) 1 1 : Value) (w_14.alloc (.cells #[.int .u8 0] 5)) rfl rfl rfl (by kernel_rfl) ?_
    replace h := h _ rfl
    generalize w_14.alloc (.cells #[.int .u8 0] 5) = w_15 at h ⊢
    obtain ⟨t26_16, w_17, hx17, h⟩ := h
    refine y_v (s := Builtin.append_ #[33, 33] 33 #[.slice end3_13.a end3_13.n end3_13.c, .slice (some ⟨w_14.heap.size, 0, none⟩) 1 1]) rfl rfl rfl (by kernel_rfl) hx17 ?_
    refine y_k (.slice t26_16.a t26_16.n t26_16.c : Value) w_17 rfl rfl rfl (by kernel_rfl) ?_
    refine y_nil ?_
    refine e_block_n ?_
    refine y_then (hN13 (t26_16) _ _ h ?_)
    dsimp only
    refine upd_id ?_ rfl
    refine upd_id ?_ rfl
    refine upd_id ?_ rfl
    rfl
  · replace h := h.2 (bne_eq_false_iff_eq.mp hb77)
    refine y_exit ?_
    repeat (first | refine e_then_x ?_ | refine e_block_y rfl ?_)
    refine e_block_x ?_
    refine y_then (hK10 _ _ ?_)
    refine y_seq fun K18 hK18 => ?_
    refine y_seq fun K19 hK19 => ?_
    refine y_region ?_
    refine y_k (.int .i64 56 : Value) w_14 rfl rfl rfl (by kernel_rfl) ?_
    refine y_nil ?_
    refine y_then (hK19 _ _ ?_)
    refine y_block ?_
    refine y_loop (S := Sl × Int) (fun s j => match s with | (end3_18, i4_19) => upd (upd (upd (upd (j) 0 (.pointer h0_1 : Value)) 2 (.pointer (some (⟨w.heap.size, 0, none⟩ : Addr)) : Value)) 3 (.slice end3_18.a end3_18.n end3_18.c : Value)) 4 (.int .i64 i4_19 : Value)) (end3_13, 56) ?_ h ?_
    · dsimp only
      refine upd_id ?_ rfl
      refine upd_id ?_ rfl
      refine upd_id ?_ rfl
      refine upd_id ?_ rfl
      rfl
    rintro KN22 next21 hN22 ⟨end3_18, i4_19⟩ j w_20 h
    unfold F49_l2 at h
    refine y_seq fun K23 hK23 => ?_
    refine y_seq fun K24 hK24 => ?_
    refine y_region ?_
    refine y_k (.int .i64 i4_19 : Value) w_20 rfl rfl rfl (by kernel_rfl) ?_
    refine y_k (.bool (decide (i4_19 ≥ 0)) : Value) w_20 rfl rfl rfl (by kernel_rfl) ?_
    refine y_nil ?_
    refine y_then (hK24 _ _ ?_)
    refine y_cond (decide (i4_19 ≥ 0)) rfl rfl (fun hb76 => ?_) (fun hb76 => ?_)
    · replace h := h.1 (of_decide_eq_true hb76)
      refine y_skip ?_
      refine y_then (hK23 _ _ ?_)
      refine y_seq fun K25 hK25 => ?_
      refine y_block ?_
      refine y_region ?_
      refine y_k (.slice end3_18.a end3_18.n end3_18.c : Value) w_20 rfl rfl rfl (by kernel_rfl) ?_
      refine y_k (.pointer h0_1 : Value) w_20 rfl rfl rfl (by kernel_rfl) ?_
      obtain ⟨a_21, hx27, h⟩ := h
      refine y_k (.pointer (some a_21) : Value) w_20 rfl rfl rfl (run_nilCheck hx27 rfl) ?_
      refine y_k (.pointer (some (a_21.add 73)) : Value) w_20 rfl rfl rfl (by kernel_rfl) ?_
      obtain ⟨t35_22, hx28, h⟩ := h
      refine y_v (s := Instr.loadAt 87 (.pointer (some (a_21.add 73)))) rfl rfl rfl (by kernel_rfl) (rn_load (by kernel_rfl) hx28) ?_
      refine y_k (.int .u64 (IntKind.u64.wrap (8 * t35_22)) : Value) w_20 rfl rfl rfl (by kernel_rfl) ?_
      refine y_k (.int .i64 i4_19 : Value) w_20 rfl rfl rfl (by kernel_rfl) ?_
      obtain ⟨hx29, h⟩ := h
      refine y_k (.int .u64 (ishr .u64 (IntKind.u64.wrap (8 * t35_22)) i4_19) : Value) w_20 rfl rfl rfl (run_shr hx29 rfl rfl) ?_
      refine y_k (.int .u8 (IntKind.u8.wrap (ishr .u64 (IntKind.u64.wrap (8 * t35_22)) i4_19)) : Value) w_20 rfl rfl rfl (by kernel_rfl) ?_
      refine y_k (.slice (some ⟨w_20.heap.size, 0, none⟩) 1 1 : Value) (w_20.alloc (.cells #[.int .u8 (IntKind.u8.wrap (ishr .u64 (IntKind.u64.wrap (8 * t35_22)) i4_19))] 5)) rfl rfl rfl (by kernel_rfl) ?_
      replace h := h _ rfl
      generalize w_20.alloc (.cells #[.int .u8 (IntKind.u8.wrap (ishr .u64 (IntKind.u64.wrap (8 * t35_22)) i4_19))] 5) = w_23 at h ⊢
      obtain ⟨t41_24, w_25, hx30, h⟩ := h
      refine y_v (s := Builtin.append_ #[33, 33] 33 #[.slice end3_18.a end3_18.n end3_18.c, .slice (some ⟨w_20.heap.size, 0, none⟩) 1 1]) rfl rfl rfl (by kernel_rfl) hx30 ?_
      refine y_k (.slice t41_24.a t41_24.n t41_24.c : Value) w_25 rfl rfl rfl (by kernel_rfl) ?_
      refine y_nil ?_
      refine e_block_n ?_
      refine y_then (hK25 _ _ ?_)
      refine y_region ?_
      refine y_k (.int .i64 i4_19 : Value) w_25 rfl rfl rfl (by kernel_rfl) ?_
      refine y_k (.int .i64 (IntKind.i64.wrap (i4_19 - 8)) : Value) w_25 rfl rfl rfl (by kernel_rfl) ?_
      refine y_k (.int .i64 (IntKind.i64.wrap (i4_19 - 8)) : Value) w_25 rfl rfl rfl (by kernel_rfl) ?_
      refine y_nil ?_
      refine y_then (hN22 (t41_24, IntKind.i64.wrap (i4_19 - 8)) _ _ h ?_)
      dsimp only
      refine upd_id ?_ rfl
      refine upd_id ?_ rfl
      refine upd_id ?_ rfl
      refine upd_id ?_ rfl
      rfl
    · replace h := h.2 (of_decide_eq_false hb76)
      refine y_exit ?_
      repeat (first | refine e_then_x ?_ | refine e_block_y rfl ?_)
      refine e_block_x ?_
      refine y_then (hK18 _ _ ?_)
      refine y_seq fun K31 hK31 => ?_
      refine y_region ?_
      refine y_k (.pointer h0_1 : Value) w_20 rfl rfl rfl (by kernel_rfl) ?_
      obtain ⟨a_26, hx32, h⟩ := h
      refine y_k (.pointer (some a_26) : Value) w_20 rfl rfl rfl (run_nilCheck hx32 rfl) ?_
      refine y_k (.pointer (some a_26) : Value) w_20 rfl rfl rfl (by kernel_rfl) ?_
      obtain ⟨t45_27, t45_28, t45_29, t45_30, t45_31, t45_32, t45_33, t45_34, hx33, h⟩ := h
      refine y_v (s := Instr.loadAt 94 (.pointer (some a_26))) rfl rfl rfl (by kernel_rfl) (rn_loadcells (k := 8) ⟨by kernel_rfl, by kernel_rfl⟩ rfl hx33) ?_
      refine y_k (.pointer (some (⟨w_20.heap.size, 0, none⟩ : Addr)) : Value) (w_20.alloc (.cells #[.int .u32 0, .int .u32 0, .int .u32 0, .int .u32 0, .int .u32 0, .int .u32 0, .int .u32 0, .int .u32 0] 94)) rfl rfl rfl (by kernel_rfl) ?_
      replace h := h _ rfl
      generalize w_20.alloc (.cells #[.int .u32 0, .int .u32 0, .int .u32 0, .int .u32 0, .int .u32 0, .int .u32 0, .int .u32 0, .int .u32 0] 94) = w_35 at h ⊢
      obtain ⟨hx34, h⟩ := h
      replace h := h _ rfl
      refine y_u (s := Instr.storeAt 94 (.pointer (some (⟨w_20.heap.size, 0, none⟩ : Addr))) (.agg #[.int .u32 t45_27, .int .u32 t45_28, .int .u32 t45_29, .int .u32 t45_30, .int .u32 t45_31, .int .u32 t45_32, .int .u32 t45_33, .int .u32 t45_34] : Value)) rfl rfl (by kernel_rfl) (rn_storecells (k := 8) (cs := [.int .u32 t45_27, .int .u32 t45_28, .int .u32 t45_29, .int .u32 t45_30, .int .u32 t45_31, .int .u32 t45_32, .int .u32 t45_33, .int .u32 t45_34]) (by kernel_rfl) rfl (by simp [Value.oneCell']) hx34) ?_
      generalize setCells w_35 (⟨w_20.heap.size, 0, none⟩ : Addr) 0 [.int .u32 t45_27, .int .u32 t45_28, .int .u32 t45_29, .int .u32 t45_30, .int .u32 t45_31, .int .u32 t45_32, .int .u32 t45_33, .int .u32 t45_34] = w_36 at h ⊢
      refine y_nil ?_
      refine y_then (hK31 _ _ ?_)
      refine y_seq fun K35 hK35 => ?_
      refine y_block ?_
      refine y_loop (S := Sl) (fun s j => match s with | (end3_37) => upd (upd (upd (upd (j) 0 (.pointer h0_1 : Value)) 2 (.pointer (some (⟨w.heap.size, 0, none⟩ : Addr)) : Value)) 3 (.slice end3_37.a end3_37.n end3_37.c : Value)) 5 (.pointer (some (⟨w_20.heap.size, 0, none⟩ : Addr)) : Value)) (end3_18) ?_ h ?_
      · dsimp only
        refine upd_id ?_ rfl
        refine upd_id ?_ rfl
        refine upd_id ?_ rfl
        refine upd_id ?_ rfl
        rfl
      rintro KN38 next37 hN38 end3_37 j w_38 h
      unfold F49_l3 at h
      refine y_seq fun K39 hK39 => ?_
      refine y_seq fun K40 hK40 => ?_
      refine y_region ?_
      refine y_k (.slice end3_37.a end3_37.n end3_37.c : Value) w_38 rfl rfl rfl (by kernel_rfl) ?_
      refine y_k (.int .i64 ((end3_37.n : Int)) : Value) w_38 rfl rfl rfl (by kernel_rfl) ?_
      refine y_k (.bool (decide (((end3_37.n : Int)) > 0)) : Value) w_38 rfl rfl rfl (by kernel_rfl) ?_
      refine y_nil ?_
      refine y_then (hK40 _ _ ?_)
      refine y_cond (decide (((end3_37.n : Int)) > 0)) rfl rfl (fun hb75 => ?_) (fun hb75 => ?_)
      · replace h := h.1 (of_decide_eq_true hb75)
        refine y_skip ?_
        refine y_then (hK39 _ _ ?_)
        refine y_seq fun K41 hK41 => ?_
        refine y_block ?_
        obtain ⟨w_39, hwd43⟩ : ∃ wd : World, wd = w_38.drew := ⟨_, rfl⟩
        replace h := h _ hwd43
        refine t_region (wd := w_39) [] (by kernel_rfl) hwd43 SF_nil fun Q43 hE43 hp43 hS => ?_
        clear hwd43
        obtain ⟨t51_40, t51_41, t51_42, t51_43, t51_44, t51_45, t51_46, t51_47, hx44, h⟩ := h
        refine t_add ⟨0, [6, 7], fun wx => CellsAt wx (⟨w_20.heap.size, 0, none⟩ : Addr) 0 [.int .u32 t51_40, .int .u32 t51_41, .int .u32 t51_42, .int .u32 t51_43, .int .u32 t51_44, .int .u32 t51_45, .int .u32 t51_46, .int .u32 t51_47]⟩ ?_
        replace hS := SF_on (x := ⟨0, [6, 7], fun wx => CellsAt wx (⟨w_20.heap.size, 0, none⟩ : Addr) 0 [.int .u32 t51_40, .int .u32 t51_41, .int .u32 t51_42, .int .u32 t51_43, .int .u32 t51_44, .int .u32 t51_45, .int .u32 t51_46, .int .u32 t51_47]⟩) hx44 hS
        refine t_v (s := Instr.loadAt 94 (.pointer (some (⟨w_20.heap.size, 0, none⟩ : Addr)))) hp43 hS 0 (.agg #[.int .u32 t51_40, .int .u32 t51_41, .int .u32 t51_42, .int .u32 t51_43, .int .u32 t51_44, .int .u32 t51_45, .int .u32 t51_46, .int .u32 t51_47] : Value) rfl (wanted_none rfl) rfl rfl (by kernel_rfl) (by kernel_rfl) (fun _ hw => rn_loadcells (k := 8) ⟨by kernel_rfl, by kernel_rfl⟩ rfl (Sw.fact (List.Mem.head _) rfl hw)) fun hS => ?_
        refine t_kw hp43 hS 1 (.pointer h0_1 : Value) rfl (wanted_none rfl) rfl rfl (by kernel_rfl) (fun _ _ => by kernel_rfl) fun hS => ?_
        obtain ⟨a_48, hx45, h⟩ := h
        refine t_kw hp43 hS 2 (.pointer (some a_48) : Value) rfl (wanted_none rfl) rfl rfl (by kernel_rfl) (fun _ _ => run_nilCheck hx45 rfl) fun hS => ?_
        refine t_kw hp43 hS 3 (.pointer (some (a_48.add 8)) : Value) rfl (wanted_none rfl) rfl rfl (by kernel_rfl) (fun _ _ => by kernel_rfl) fun hS => ?_
        refine t_kw hp43 hS 4 (.slice end3_37.a end3_37.n end3_37.c : Value) rfl (wanted_none rfl) rfl rfl (by kernel_rfl) (fun _ _ => by kernel_rfl) fun hS => ?_
        obtain ⟨t56_49, hx46, h⟩ := h
        refine t_add ⟨5, [6, 7], fun wx => (Instr.sliceAt 33 (.slice end3_37.a end3_37.n end3_37.c : Value) none (some (.int .i64 64 : Value)) none).run Try.prog wx = .ok (.slice t56_49.a t56_49.n t56_49.c : Value) wx⟩ ?_
        replace hS := SF_on (x := ⟨5, [6, 7], fun wx => (Instr.sliceAt 33 (.slice end3_37.a end3_37.n end3_37.c : Value) none (some (.int .i64 64 : Value)) none).run Try.prog wx = .ok (.slice t56_49.a t56_49.n t56_49.c : Value) wx⟩) hx46 hS
        refine t_v (s := Instr.sliceAt 33 (.slice end3_37.a end3_37.n end3_37.c : Value) none (some (.int .i64 64 : Value)) none) hp43 hS 5 (.slice t56_49.a t56_49.n t56_49.c : Value) rfl (wanted_none rfl) rfl rfl (by kernel_rfl) (by kernel_rfl) (fun _ hw => (Sw.fact (List.Mem.head _) rfl hw)) fun hS => ?_
        refine t_call 6 (by kernel_rfl) rfl (wanted_none rfl) rfl rfl (by kernel_rfl) (h.mono ?_)
        rintro _ w_58 ⟨t57_50, t57_51, t57_52, t57_53, t57_54, t57_55, t57_56, t57_57, rfl, h⟩
        refine ⟨_, rfl, (SF_off (by kernel_rfl) (by kernel_rfl) (SF_off (by kernel_rfl) (by kernel_rfl) SF_nil)), fun hS => ?_⟩
        obtain ⟨hx47, h⟩ := h
        replace h := h _ rfl
        refine t_u 7 (s := Instr.storeAt 94 (.pointer (some (⟨w_20.heap.size, 0, none⟩ : Addr))) (.agg #[.int .u32 t57_50, .int .u32 t57_51, .int .u32 t57_52, .int .u32 t57_53, .int .u32 t57_54, .int .u32 t57_55, .int .u32 t57_56, .int .u32 t57_57] : Value)) (by kernel_rfl) rfl (wanted_none rfl) rfl (by kernel_rfl) (rn_storecells (k := 8) (cs := [.int .u32 t57_50, .int .u32 t57_51, .int .u32 t57_52, .int .u32 t57_53, .int .u32 t57_54, .int .u32 t57_55, .int .u32 t57_56, .int .u32 t57_57]) (by kernel_rfl) rfl (by simp [Value.oneCell']) hx47) (SF_off (by kernel_rfl) (by kernel_rfl) (SF_off (by kernel_rfl) (by kernel_rfl) SF_nil)) fun hS => ?_
        generalize setCells w_58 (⟨w_20.heap.size, 0, none⟩ : Addr) 0 [.int .u32 t57_50, .int .u32 t57_51, .int .u32 t57_52, .int .u32 t57_53, .int .u32 t57_54, .int .u32 t57_55, .int .u32 t57_56, .int .u32 t57_57] = w_59 at hS h ⊢
        refine t_done (by kernel_rfl) (hE43 _ _ ?_)
        refine e_block_n ?_
        refine y_then (hK41 _ _ ?_)
        refine y_region ?_
        refine y_k (.slice end3_37.a end3_37.n end3_37.c : Value) w_59 rfl rfl rfl (by kernel_rfl) ?_
        obtain ⟨t50_60, hx48, h⟩ := h
        refine y_v (s := Instr.sliceAt 33 (.slice end3_37.a end3_37.n end3_37.c : Value) (some (.int .i64 64 : Value)) none none) rfl rfl rfl (by kernel_rfl) (hx48) ?_
        refine y_k (.slice t50_60.a t50_60.n t50_60.c : Value) w_59 rfl rfl rfl (by kernel_rfl) ?_
        refine y_nil ?_
        refine y_then (hN38 (t50_60) _ _ h ?_)
        dsimp only
        refine upd_id ?_ rfl
        refine upd_id ?_ rfl
        refine upd_id ?_ rfl
        refine upd_id ?_ rfl
        rfl
      · replace h := h.2 (of_decide_eq_false hb75)
        refine y_exit ?_
        repeat (first | refine e_then_x ?_ | refine e_block_y rfl ?_)
        refine e_block_x ?_
        refine y_then (hK35 _ _ ?_)
        refine y_seq fun K49 hK49 => ?_
        refine y_region ?_
        refine y_k (.pointer (some (⟨w_38.heap.size, 0, none⟩ : Addr)) : Value) (w_38.alloc (.cells #[.int .u8 0, .int .u8 0, .int .u8 0, .int .u8 0, .int .u8 0, .int .u8 0, .int .u8 0, .int .u8 0, .int .u8 0, .int .u8 0, .int .u8 0, .int .u8 0, .int .u8 0, .int .u8 0, .int .u8 0, .int .u8 0, .int .u8 0, .int .u8 0, .int .u8 0, .int .u8 0, .int .u8 0, .int .u8 0, .int .u8 0, .int .u8 0, .int .u8 0, .int .u8 0, .int .u8 0, .int .u8 0, .int .u8 0, .int .u8 0, .int .u8 0, .int .u8 0] 50)) rfl rfl rfl (by kernel_rfl) ?_
        replace h := h _ rfl
        generalize w_38.alloc (.cells #[.int .u8 0, .int .u8 0, .int .u8 0, .int .u8 0, .int .u8 0, .int .u8 0, .int .u8 0, .int .u8 0, .int .u8 0, .int .u8 0, .int .u8 0, .int .u8 0, .int .u8 0, .int .u8 0, .int .u8 0, .int .u8 0, .int .u8 0, .int .u8 0, .int .u8 0, .int .u8 0, .int .u8 0, .int .u8 0, .int .u8 0, .int .u8 0, .int .u8 0, .int .u8 0, .int .u8 0, .int .u8 0, .int .u8 0, .int .u8 0, .int .u8 0, .int .u8 0] 50) = w_61 at h ⊢
        refine y_nil ?_
        refine y_then (hK49 _ _ ?_)
        refine y_seq fun K50 hK50 => ?_
        refine y_seq fun K51 hK51 => ?_
        refine y_region ?_
        obtain ⟨t58_62, t58_63, t58_64, t58_65, t58_66, t58_67, t58_68, t58_69, hx52, h⟩ := h
        refine y_v (s := Instr.loadAt 94 (.pointer (some (⟨w_20.heap.size, 0, none⟩ : Addr)))) rfl rfl rfl (by kernel_rfl) (rn_loadcells (k := 8) ⟨by kernel_rfl, by kernel_rfl⟩ rfl hx52) ?_
        refine y_k (.int .i64 0 : Value) w_61 rfl rfl rfl (by kernel_rfl) ?_
        refine y_nil ?_
        refine y_then (hK51 _ _ ?_)
        refine y_block ?_
        refine y_loop (S := Int) (fun s j => match s with | (t59_70) => upd (upd (upd (upd (j) 2 (.pointer (some (⟨w.heap.size, 0, none⟩ : Addr)) : Value)) 6 (.pointer (some (⟨w_38.heap.size, 0, none⟩ : Addr)) : Value)) 58 (.agg #[.int .u32 t58_62, .int .u32 t58_63, .int .u32 t58_64, .int .u32 t58_65, .int .u32 t58_66, .int .u32 t58_67, .int .u32 t58_68, .int .u32 t58_69] : Value)) 59 (.int .i64 t59_70 : Value)) (0) ?_ h ?_
        · dsimp only
          refine upd_id ?_ rfl
          refine upd_id ?_ rfl
          refine upd_id ?_ rfl
          refine upd_id ?_ rfl
          rfl
        rintro KN55 next54 hN55 t59_70 j w_71 h
        unfold F49_l4 at h
        refine y_seq fun K56 hK56 => ?_
        refine y_region ?_
        refine y_k (.bool (decide (t59_70 < 8)) : Value) w_71 rfl rfl rfl (by kernel_rfl) ?_
        refine y_nil ?_
        refine y_then (hK56 _ _ ?_)
        refine y_seq fun K57 hK57 => ?_
        refine y_cond (decide (t59_70 < 8)) rfl rfl (fun hb74 => ?_) (fun hb74 => ?_)
        · replace h := h.1 (of_decide_eq_true hb74)
          refine y_skip ?_
          refine y_then (hK57 _ _ ?_)
          refine y_seq fun K58 hK58 => ?_
          refine y_block ?_
          refine y_seq fun K60 hK60 => ?_
          refine y_region ?_
          refine y_k (.int .i64 t59_70 : Value) w_71 rfl rfl rfl (by kernel_rfl) ?_
          obtain ⟨t62_72, hx61, h⟩ := h
          refine y_v (s := Instr.index 94 (.agg #[.int .u32 t58_62, .int .u32 t58_63, .int .u32 t58_64, .int .u32 t58_65, .int .u32 t58_66, .int .u32 t58_67, .int .u32 t58_68, .int .u32 t58_69] : Value) (.int .i64 t59_70 : Value)) rfl rfl rfl (by kernel_rfl) (hx61) ?_
          refine y_k (.int .i64 t59_70 : Value) w_71 rfl rfl rfl (by kernel_rfl) ?_
          refine y_k (.int .u32 t62_72 : Value) w_71 rfl rfl rfl (by kernel_rfl) ?_
          refine y_nil ?_
          refine y_then (hK60 _ _ ?_)
          refine y_region ?_
          refine y_k (.int .i64 t59_70 : Value) w_71 rfl rfl rfl (by kernel_rfl) ?_
          refine y_k (.int .i64 (IntKind.i64.wrap (4 * t59_70)) : Value) w_71 rfl rfl rfl (by kernel_rfl) ?_
          refine y_k (.int .i64 t59_70 : Value) w_71 rfl rfl rfl (by kernel_rfl) ?_
          refine y_k (.int .i64 (IntKind.i64.wrap (4 * t59_70)) : Value) w_71 rfl rfl rfl (by kernel_rfl) ?_
          refine y_k (.int .i64 (IntKind.i64.wrap ((IntKind.i64.wrap (4 * t59_70)) + 1)) : Value) w_71 rfl rfl rfl (by kernel_rfl) ?_
          refine y_k (.int .i64 t59_70 : Value) w_71 rfl rfl rfl (by kernel_rfl) ?_
          refine y_k (.int .i64 (IntKind.i64.wrap (4 * t59_70)) : Value) w_71 rfl rfl rfl (by kernel_rfl) ?_
          refine y_k (.int .i64 (IntKind.i64.wrap ((IntKind.i64.wrap (4 * t59_70)) + 2)) : Value) w_71 rfl rfl rfl (by kernel_rfl) ?_
          refine y_k (.int .i64 t59_70 : Value) w_71 rfl rfl rfl (by kernel_rfl) ?_
          refine y_k (.int .i64 (IntKind.i64.wrap (4 * t59_70)) : Value) w_71 rfl rfl rfl (by kernel_rfl) ?_
          refine y_k (.int .i64 (IntKind.i64.wrap ((IntKind.i64.wrap (4 * t59_70)) + 3)) : Value) w_71 rfl rfl rfl (by kernel_rfl) ?_
          refine y_k (.int .u32 t62_72 : Value) w_71 rfl rfl rfl (by kernel_rfl) ?_
          refine y_k (.int .u32 (Int.fdiv t62_72 (2 ^ 24)) : Value) w_71 rfl rfl rfl (by kernel_rfl) ?_
          refine y_k (.int .u8 (IntKind.u8.wrap (Int.fdiv t62_72 (2 ^ 24))) : Value) w_71 rfl rfl rfl (by kernel_rfl) ?_
          refine y_k (.int .u32 t62_72 : Value) w_71 rfl rfl rfl (by kernel_rfl) ?_
          refine y_k (.int .u32 (Int.fdiv t62_72 (2 ^ 16)) : Value) w_71 rfl rfl rfl (by kernel_rfl) ?_
          refine y_k (.int .u8 (IntKind.u8.wrap (Int.fdiv t62_72 (2 ^ 16))) : Value) w_71 rfl rfl rfl (by kernel_rfl) ?_
          refine y_k (.int .u32 t62_72 : Value) w_71 rfl rfl rfl (by kernel_rfl) ?_
          refine y_k (.int .u32 (Int.fdiv t62_72 (2 ^ 8)) : Value) w_71 rfl rfl rfl (by kernel_rfl) ?_
          refine y_k (.int .u8 (IntKind.u8.wrap (Int.fdiv t62_72 (2 ^ 8))) : Value) w_71 rfl rfl rfl (by kernel_rfl) ?_
          refine y_k (.int .u32 t62_72 : Value) w_71 rfl rfl rfl (by kernel_rfl) ?_
          refine y_k (.int .u8 (IntKind.u8.wrap t62_72) : Value) w_71 rfl rfl rfl (by kernel_rfl) ?_
          obtain ⟨hx62a, hx62b, h⟩ := h
          refine y_v (v := (.pointer (some ((⟨w_38.heap.size, 0, none⟩ : Addr).add (Int.toNat (IntKind.i64.wrap (4 * t59_70))))) : Value)) (s := Instr.indexAt 50 (.pointer (some (⟨w_38.heap.size, 0, none⟩ : Addr)) : Value) (.int .i64 (IntKind.i64.wrap (4 * t59_70)) : Value)) rfl rfl rfl (by kernel_rfl) (run_ixa1 (el := 5) (by kernel_rfl) (by kernel_rfl) hx62a hx62b) ?_
          obtain ⟨hx63, h⟩ := h
          replace h := h _ rfl
          refine y_u (s := Instr.storeAt 5 (.pointer (some ((⟨w_38.heap.size, 0, none⟩ : Addr).add (Int.toNat (IntKind.i64.wrap (4 * t59_70)))))) (.int .u8 (IntKind.u8.wrap (Int.fdiv t62_72 (2 ^ 24))) : Value)) rfl rfl (by kernel_rfl) (rn_store1 (by kernel_rfl) rfl hx63) ?_
          generalize w_71.setCell ((⟨w_38.heap.size, 0, none⟩ : Addr).add (Int.toNat (IntKind.i64.wrap (4 * t59_70)))) (.int .u8 (IntKind.u8.wrap (Int.fdiv t62_72 (2 ^ 24))) : Value) = w_73 at h ⊢
          obtain ⟨hx64a, hx64b, h⟩ := h
          refine y_v (v := (.pointer (some ((⟨w_38.heap.size, 0, none⟩ : Addr).add (Int.toNat (IntKind.i64.wrap ((IntKind.i64.wrap (4 * t59_70)) + 1))))) : Value)) (s := Instr.indexAt 50 (.pointer (some (⟨w_38.heap.size, 0, none⟩ : Addr)) : Value) (.int .i64 (IntKind.i64.wrap ((IntKind.i64.wrap (4 * t59_70)) + 1)) : Value)) rfl rfl rfl (by kernel_rfl) (run_ixa1 (el := 5) (by kernel_rfl) (by kernel_rfl) hx64a hx64b) ?_
          obtain ⟨hx65, h⟩ := h
          replace h := h _ rfl
          refine y_u (s := Instr.storeAt 5 (.pointer (some ((⟨w_38.heap.size, 0, none⟩ : Addr).add (Int.toNat (IntKind.i64.wrap ((IntKind.i64.wrap (4 * t59_70)) + 1)))))) (.int .u8 (IntKind.u8.wrap (Int.fdiv t62_72 (2 ^ 16))) : Value)) rfl rfl (by kernel_rfl) (rn_store1 (by kernel_rfl) rfl hx65) ?_
          generalize w_73.setCell ((⟨w_38.heap.size, 0, none⟩ : Addr).add (Int.toNat (IntKind.i64.wrap ((IntKind.i64.wrap (4 * t59_70)) + 1)))) (.int .u8 (IntKind.u8.wrap (Int.fdiv t62_72 (2 ^ 16))) : Value) = w_74 at h ⊢
          obtain ⟨hx66a, hx66b, h⟩ := h
          refine y_v (v := (.pointer (some ((⟨w_38.heap.size, 0, none⟩ : Addr).add (Int.toNat (IntKind.i64.wrap ((IntKind.i64.wrap (4 * t59_70)) + 2))))) : Value)) (s := Instr.indexAt 50 (.pointer (some (⟨w_38.heap.size, 0, none⟩ : Addr)) : Value) (.int .i64 (IntKind.i64.wrap ((IntKind.i64.wrap (4 * t59_70)) + 2)) : Value)) rfl rfl rfl (by kernel_rfl) (run_ixa1 (el := 5) (by kernel_rfl) (by kernel_rfl) hx66a hx66b) ?_
          obtain ⟨hx67, h⟩ := h
          replace h := h _ rfl
          refine y_u (s := Instr.storeAt 5 (.pointer (some ((⟨w_38.heap.size, 0, none⟩ : Addr).add (Int.toNat (IntKind.i64.wrap ((IntKind.i64.wrap (4 * t59_70)) + 2)))))) (.int .u8 (IntKind.u8.wrap (Int.fdiv t62_72 (2 ^ 8))) : Value)) rfl rfl (by kernel_rfl) (rn_store1 (by kernel_rfl) rfl hx67) ?_
          generalize w_74.setCell ((⟨w_38.heap.size, 0, none⟩ : Addr).add (Int.toNat (IntKind.i64.wrap ((IntKind.i64.wrap (4 * t59_70)) + 2)))) (.int .u8 (IntKind.u8.wrap (Int.fdiv t62_72 (2 ^ 8))) : Value) = w_75 at h ⊢
          obtain ⟨hx68a, hx68b, h⟩ := h
          refine y_v (v := (.pointer (some ((⟨w_38.heap.size, 0, none⟩ : Addr).add (Int.toNat (IntKind.i64.wrap ((IntKind.i64.wrap (4 * t59_70)) + 3))))) : Value)) (s := Instr.indexAt 50 (.pointer (some (⟨w_38.heap.size, 0, none⟩ : Addr)) : Value) (.int .i64 (IntKind.i64.wrap ((IntKind.i64.wrap (4 * t59_70)) + 3)) : Value)) rfl rfl rfl (by kernel_rfl) (run_ixa1 (el := 5) (by kernel_rfl) (by kernel_rfl) hx68a hx68b) ?_
          obtain ⟨hx69, h⟩ := h
          replace h := h _ rfl
          refine y_u (s := Instr.storeAt 5 (.pointer (some ((⟨w_38.heap.size, 0, none⟩ : Addr).add (Int.toNat (IntKind.i64.wrap ((IntKind.i64.wrap (4 * t59_70)) + 3)))))) (.int .u8 (IntKind.u8.wrap t62_72) : Value)) rfl rfl (by kernel_rfl) (rn_store1 (by kernel_rfl) rfl hx69) ?_
          generalize w_75.setCell ((⟨w_38.heap.size, 0, none⟩ : Addr).add (Int.toNat (IntKind.i64.wrap ((IntKind.i64.wrap (4 * t59_70)) + 3)))) (.int .u8 (IntKind.u8.wrap t62_72) : Value) = w_76 at h ⊢
          refine y_nil ?_
          refine e_block_n ?_
          refine y_then (hK58 _ _ ?_)
          refine y_region ?_
          refine y_k (.int .i64 (IntKind.i64.wrap (t59_70 + 1)) : Value) w_76 rfl rfl rfl (by kernel_rfl) ?_
          refine y_k (.int .i64 (IntKind.i64.wrap (t59_70 + 1)) : Value) w_76 rfl rfl rfl (by kernel_rfl) ?_
          refine y_nil ?_
          refine y_then (hN55 (IntKind.i64.wrap (t59_70 + 1)) _ _ h ?_)
          dsimp only
          refine upd_id ?_ rfl
          refine upd_id ?_ rfl
          refine upd_id ?_ rfl
          refine upd_id ?_ rfl
          rfl
        · replace h := h.2 (of_decide_eq_false hb74)
          refine y_exit ?_
          repeat (first | refine e_then_x ?_ | refine e_block_y rfl ?_)
          refine e_block_x ?_
          refine y_then (hK50 _ _ ?_)
          refine y_seq fun K70 hK70 => ?_
          refine y_region ?_
          obtain ⟨t90_77, hx71, h⟩ := h
          refine y_v (s := Instr.loadAt 50 (.pointer (some (⟨w_38.heap.size, 0, none⟩ : Addr)))) rfl rfl rfl (by kernel_rfl) (hx71) ?_
          obtain ⟨w_78, hx72, h⟩ := h
          refine y_u (s := Instr.storeAt 50 (.pointer (some (⟨w.heap.size, 0, none⟩ : Addr))) t90_77) rfl rfl (by kernel_rfl) hx72 ?_
          refine y_nil ?_
          refine y_then (hK70 _ _ ?_)
          refine y_ret ?_
          repeat (first | refine e_then_r ?_ | refine e_block_r ?_)
          obtain ⟨r0_79, hx73, h⟩ := h
          exact (hQ0 _ _ _ (rs1 rfl (rs_cell (v := r0_79) (ad := (⟨w.heap.size, 0, none⟩ : Addr)) rfl rfl (hx73))) ⟨_, rfl, h⟩).1

/-- turnkey/sum.Of -/
def F41 (b0_1 : Sl) (K : Value → World → Prop) (w : World) : Prop :=
  ∀ (w_2 : World), w_2 = w.alloc (.cells #[.int .u8 0, .int .u8 0, .int .u8 0, .int .u8 0, .int .u8 0, .int .u8 0, .int .u8 0, .int .u8 0, .int .u8 0, .int .u8 0, .int .u8 0, .int .u8 0, .int .u8 0, .int .u8 0, .int .u8 0, .int .u8 0, .int .u8 0, .int .u8 0, .int .u8 0, .int .u8 0, .int .u8 0, .int .u8 0, .int .u8 0, .int .u8 0, .int .u8 0, .int .u8 0, .int .u8 0, .int .u8 0, .int .u8 0, .int .u8 0, .int .u8 0, .int .u8 0] 50) →
  Calls Try.prog 45 #[] w_2 fun e w_4 => ∃ (t4_3 : Option Addr), e = .returned (.pointer t4_3 : Value) ∧
  Calls Try.prog 47 #[.pointer t4_3, .slice b0_1.a b0_1.n b0_1.c] w_4 fun e w_5 => e = .returned (.tuple #[] : Value) ∧
  Calls Try.prog 49 #[.pointer t4_3] w_5 fun e w_7 => ∃ (t9_6 : Value), e = .returned t9_6 ∧
  ∃ (w_8 : World), (Instr.storeAt 50 (.pointer (some (⟨w.heap.size, 0, none⟩ : Addr))) t9_6).run Try.prog w_7 = .ok () w_8 ∧
  ∃ (r0_9 : Value), (Instr.loadAt 50 (.pointer (some (⟨w.heap.size, 0, none⟩ : Addr)))).run Try.prog w_8 = .ok r0_9 w_8 ∧
  K r0_9 w_8
set_option maxHeartbeats 4000000 in
set_option maxRecDepth 20000 in
theorem F41_sound (b0_1 : Sl) (K : Value → World → Prop) (w : World) (h : F41 b0_1 K w) :
    Calls Try.prog 41 #[.slice b0_1.a b0_1.n b0_1.c] w (fun e w1 => ∃ (r0 : Value), e = .returned r0 ∧ K r0 w1) := by
  unfold F41 at h
  refine y_enter (n := 10) (args := [.slice b0_1.a b0_1.n b0_1.c]) Try.func41 rfl rfl rfl fun Q0 hQ0 => ?_
  refine y_seq fun K1 hK1 => ?_
  refine y_region ?_
  refine y_k (.pointer (some (⟨w.heap.size, 0, none⟩ : Addr)) : Value) (w.alloc (.cells #[.int .u8 0, .int .u8 0, .int .u8 0, .int .u8 0, .int .u8 0, .int .u8 0, .int .u8 0, .int .u8 0, .int .u8 0, .int .u8 0, .int .u8 0, .int .u8 0, .int .u8 0, .int .u8 0, .int .u8 0, .int .u8 0, .int .u8 0, .int .u8 0, .int .u8 0, .int .u8 0, .int .u8 0, .int .u8 0, .int .u8 0, .int .u8 0, .int .u8 0, .int .u8 0, .int .u8 0, .int .u8 0, .int .u8 0, .int .u8 0, .int .u8 0, .int .u8 0] 50)) rfl rfl rfl (by kernel_rfl) ?_
  replace h := h _ rfl
  generalize w.alloc (.cells #[.int .u8 0, .int .u8 0, .int .u8 0, .int .u8 0, .int .u8 0, .int .u8 0, .int .u8 0, .int .u8 0, .int .u8 0, .int .u8 0, .int .u8 0, .int .u8 0, .int .u8 0, .int .u8 0, .int .u8 0, .int .u8 0, .int .u8 0, .int .u8 0, .int .u8 0, .int .u8 0, .int .u8 0, .int .u8 0, .int .u8 0, .int .u8 0, .int .u8 0, .int .u8 0, .int .u8 0, .int .u8 0, .int .u8 0, .int .u8 0, .int .u8 0, .int .u8 0] 50) = w_2 at h ⊢
  refine y_nil ?_
  refine y_then (hK1 _ _ ?_)
  refine y_seq fun K2 hK2 => ?_
  refine y_region ?_
  refine y_call rfl rfl rfl (by kernel_rfl) (h.mono ?_)
  rintro _ w_4 ⟨t4_3, rfl, h⟩
  refine ⟨_, rfl, ?_⟩
  refine y_k (.pointer t4_3 : Value) w_4 rfl rfl rfl (by kernel_rfl) ?_
  refine y_nil ?_
  refine y_then (hK2 _ _ ?_)
  refine y_seq fun K3 hK3 => ?_
  refine y_region ?_
  refine y_k (.pointer t4_3 : Value) w_4 rfl rfl rfl (by kernel_rfl) ?_
  refine y_k (.slice b0_1.a b0_1.n b0_1.c : Value) w_4 rfl rfl rfl (by kernel_rfl) ?_
  refine y_call rfl rfl rfl (by kernel_rfl) (h.mono ?_)
  rintro _ w_5 ⟨rfl, h⟩
  refine ⟨_, rfl, ?_⟩
  refine y_nil ?_
  refine y_then (hK3 _ _ ?_)
  refine y_seq fun K4 hK4 => ?_
  refine y_region ?_
  refine y_k (.pointer t4_3 : Value) w_5 rfl rfl rfl (by kernel_rfl) ?_
  refine y_call rfl rfl rfl (by kernel_rfl) (h.mono ?_)
  rintro _ w_7 ⟨t9_6, rfl, h⟩
  refine ⟨_, rfl, ?_⟩
  obtain ⟨w_8, hx5, h⟩ := h
  refine y_u (s := Instr.storeAt 50 (.pointer (some (⟨w.heap.size, 0, none⟩ : Addr))) t9_6) rfl rfl (by kernel_rfl) hx5 ?_
  refine y_nil ?_
  refine y_then (hK4 _ _ ?_)
  refine y_ret ?_
  repeat (first | refine e_then_r ?_ | refine e_block_r ?_)
  obtain ⟨r0_9, hx6, h⟩ := h
  exact (hQ0 _ _ _ (rs1 rfl (rs_cell (v := r0_9) (ad := (⟨w.heap.size, 0, none⟩ : Addr)) rfl rfl (hx6))) ⟨_, rfl, h⟩).1

/-- turnkey/sum.New -/
def F45  (K : Option Addr → World → Prop) (w : World) : Prop :=
  ∃ (t1_1 : Value), (Instr.build 98 #[]).run Try.prog w = .ok t1_1 w ∧
  ∀ (w_2 : World), w_2 = w.alloc (.cells (Value.cells t1_1) 98) →
  K (some (⟨w.heap.size, 0, none⟩ : Addr)) w_2
set_option maxHeartbeats 4000000 in
set_option maxRecDepth 20000 in
theorem F45_sound  (K : Option Addr → World → Prop) (w : World) (h : F45  K w) :
    Calls Try.prog 45 #[] w (fun e w1 => ∃ (r0 : Option Addr), e = .returned (.pointer r0 : Value) ∧ K r0 w1) := by
  unfold F45 at h
  refine y_enter (n := 3) (args := []) Try.func45 rfl rfl rfl fun Q0 hQ0 => ?_
  refine y_seq fun K1 hK1 => ?_
  refine y_region ?_
  refine y_k (.pointer none : Value) w rfl rfl rfl (by kernel_rfl) ?_
  refine y_nil ?_
  refine y_then (hK1 _ _ ?_)
  refine y_seq fun K2 hK2 => ?_
  refine y_region ?_
  obtain ⟨t1_1, hx3, h⟩ := h
  refine y_v (s := Instr.build 98 #[]) rfl rfl rfl (by kernel_rfl) (hx3) ?_
  refine y_k (.pointer (some (⟨w.heap.size, 0, none⟩ : Addr)) : Value) (w.alloc (.cells (Value.cells t1_1) 98)) rfl rfl rfl (by kernel_rfl) ?_
  replace h := h _ rfl
  generalize w.alloc (.cells (Value.cells t1_1) 98) = w_2 at h ⊢
  refine y_k (.pointer (some (⟨w.heap.size, 0, none⟩ : Addr)) : Value) w_2 rfl rfl rfl (by kernel_rfl) ?_
  refine y_nil ?_
  refine y_then (hK2 _ _ ?_)
  refine y_ret ?_
  repeat (first | refine e_then_r ?_ | refine e_block_r ?_)
  exact (hQ0 _ _ _ (res1 (v := (.pointer (some (⟨w.heap.size, 0, none⟩ : Addr)) : Value)) rfl rfl rfl) ⟨_, rfl, h⟩).1

end Go.Proofs.Ytjgijifankaglaa
