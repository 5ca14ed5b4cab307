/- Printed by gen.py (own program, wip/): for each Go function a predicate transformer and its soundness. -/
import Derived.Test.YtjgijifankaglaaProg
import Derived.Test.YtjgijifankaglaaST
namespace Go.Proofs.Ytjgijifankaglaa
open Go Go.RowKit Go.Proofs.Ytjgijifankaglaa.SX
set_option linter.unusedVariables false

def F76_l2 (b0_1 : Sl) (K : Sl → World → Prop) (next19 : (Sl × Int) → World → Prop) : (Sl × Int) → World → Prop := fun (l3_12, i5_13) w_14 =>
  ((i5_13 ≥ 0 →
  (0 : Int) ≤ (IntKind.i64.wrap (8 * i5_13)) ∧
  ∀ (w_15 : World), w_15 = w_14.alloc (.cells #[.int .u8 (IntKind.u8.wrap (ishr .u64 (IntKind.u64.wrap ((IntKind.u64.wrap ((b0_1.n : Int))) * 8)) (IntKind.i64.wrap (8 * i5_13))))] 5) →
  ∃ (t34_16 : Sl), ∃ (w_17 : World), (Builtin.append_ #[33, 33] 33 #[.slice l3_12.a l3_12.n l3_12.c, .slice (some ⟨w_14.heap.size, 0, none⟩) 1 1]).run Try.prog w_15 = .ok (.slice t34_16.a t34_16.n t34_16.c : Value) w_17 ∧
  next19 (t34_16, IntKind.i64.wrap (i5_13 - 1)) w_17) ∧
  (¬ (i5_13 ≥ 0) →
  K l3_12 w_14))
def F76_l1 (b0_1 : Sl) (K : Sl → World → Prop) (next9 : (Sl) → World → Prop) : (Sl) → World → Prop := fun (l3_7) w_8 =>
  ((¬ ((Int.tmod ((l3_7.n : Int)) 64)) = 56 →
  ∀ (w_9 : World), w_9 = w_8.alloc (.cells #[.int .u8 0] 5) →
  ∃ (t18_10 : Sl), ∃ (w_11 : World), (Builtin.append_ #[33, 33] 33 #[.slice l3_7.a l3_7.n l3_7.c, .slice (some ⟨w_8.heap.size, 0, none⟩) 1 1]).run Try.prog w_9 = .ok (.slice t18_10.a t18_10.n t18_10.c : Value) w_11 ∧
  next9 (t18_10) w_11) ∧
  (((Int.tmod ((l3_7.n : Int)) 64)) = 56 →
  kLoop (F76_l2 b0_1 K) (l3_7, 7) w_8))
/-- turnkey/turnkeyref02.padded -/
def F76 (b0_1 : Sl) (K : Sl → World → Prop) (w : World) : Prop :=
  ∃ (t8_2 : Sl), ∃ (w_3 : World), (Builtin.append_ #[33, 33] 33 #[.slice none 0 0, .slice b0_1.a b0_1.n b0_1.c]).run Try.prog w = .ok (.slice t8_2.a t8_2.n t8_2.c : Value) w_3 ∧
  ∀ (w_4 : World), w_4 = w_3.alloc (.cells #[.int .u8 128] 5) →
  ∃ (t11_5 : Sl), ∃ (w_6 : World), (Builtin.append_ #[33, 33] 33 #[.slice t8_2.a t8_2.n t8_2.c, .slice (some ⟨w_3.heap.size, 0, none⟩) 1 1]).run Try.prog w_4 = .ok (.slice t11_5.a t11_5.n t11_5.c : Value) w_6 ∧
  kLoop (F76_l1 b0_1 K) (t11_5) w_6
set_option maxHeartbeats 4000000 in
set_option maxRecDepth 20000 in
theorem F76_sound (b0_1 : Sl) (K : Sl → World → Prop) (w : World) (h : F76 b0_1 K w) :
    Calls Try.prog 76 #[.slice b0_1.a b0_1.n b0_1.c] w (fun e w1 => ∃ (r0 : Sl), e = .returned (.slice r0.a r0.n r0.c : Value) ∧ K r0 w1) := by
  unfold F76 at h
  refine y_enter (n := 36) (args := [.slice b0_1.a b0_1.n b0_1.c]) Try.func76 rfl rfl rfl fun Q0 hQ0 => ?_
  refine y_seq fun K1 hK1 => ?_
  refine y_region ?_
  refine y_k (.slice none 0 0 : Value) w rfl rfl rfl (by kernel_rfl) ?_
  refine y_nil ?_
  refine y_then (hK1 _ _ ?_)
  refine y_seq fun K2 hK2 => ?_
  refine y_region ?_
  refine y_k (.slice none 0 0 : Value) w rfl rfl rfl (by kernel_rfl) ?_
  refine y_nil ?_
  refine y_then (hK2 _ _ ?_)
  refine y_seq fun K3 hK3 => ?_
  refine y_region ?_
  refine y_k (.slice none 0 0 : Value) w rfl rfl rfl (by kernel_rfl) ?_
  refine y_k (.slice b0_1.a b0_1.n b0_1.c : Value) w rfl rfl rfl (by kernel_rfl) ?_
  obtain ⟨t8_2, w_3, hx4, h⟩ := h
  refine y_v (s := Builtin.append_ #[33, 33] 33 #[.slice none 0 0, .slice b0_1.a b0_1.n b0_1.c]) rfl rfl rfl (by kernel_rfl) hx4 ?_
  refine y_k (.slice t8_2.a t8_2.n t8_2.c : Value) w_3 rfl rfl rfl (by kernel_rfl) ?_
  refine y_nil ?_
  refine y_then (hK3 _ _ ?_)
  refine y_seq fun K5 hK5 => ?_
  refine y_region ?_
  refine y_k (.slice t8_2.a t8_2.n t8_2.c : Value) w_3 rfl rfl rfl (by kernel_rfl) ?_
  refine y_k (.slice (some ⟨w_3.heap.size, 0, none⟩) 1 1 : Value) (w_3.alloc (.cells #[.int .u8 128] 5)) rfl rfl rfl (by kernel_rfl) ?_
  replace h := h _ rfl
  generalize w_3.alloc (.cells #[.int .u8 128] 5) = w_4 at h ⊢
  obtain ⟨t11_5, w_6, hx6, h⟩ := h
  refine y_v (s := Builtin.append_ #[33, 33] 33 #[.slice t8_2.a t8_2.n t8_2.c, .slice (some ⟨w_3.heap.size, 0, none⟩) 1 1]) rfl rfl rfl (by kernel_rfl) hx6 ?_
  refine y_k (.slice t11_5.a t11_5.n t11_5.c : Value) w_6 rfl rfl rfl (by kernel_rfl) ?_
  refine y_nil ?_
  refine y_then (hK5 _ _ ?_)
  refine y_seq fun K7 hK7 => ?_
  refine y_block ?_
  refine y_loop (S := Sl) (fun s j => match s with | (l3_7) => upd (upd (j) 0 (.slice b0_1.a b0_1.n b0_1.c : Value)) 3 (.slice l3_7.a l3_7.n l3_7.c : Value)) (t11_5) ?_ h ?_
  · dsimp only
    refine upd_id ?_ rfl
    refine upd_id ?_ rfl
    rfl
  rintro KN10 next9 hN10 l3_7 j w_8 h
  unfold F76_l1 at h
  refine y_seq fun K11 hK11 => ?_
  refine y_seq fun K12 hK12 => ?_
  refine y_region ?_
  refine y_k (.slice l3_7.a l3_7.n l3_7.c : Value) w_8 rfl rfl rfl (by kernel_rfl) ?_
  refine y_k (.int .i64 ((l3_7.n : Int)) : Value) w_8 rfl rfl rfl (by kernel_rfl) ?_
  refine y_k (.int .i64 (Int.tmod ((l3_7.n : Int)) 64) : Value) w_8 rfl rfl rfl (by kernel_rfl) ?_
  refine y_k (.bool ((((Int.tmod ((l3_7.n : Int)) 64)) != 56)) : Value) w_8 rfl rfl rfl (by kernel_rfl) ?_
  refine y_nil ?_
  refine y_then (hK12 _ _ ?_)
  refine y_cond ((((Int.tmod ((l3_7.n : Int)) 64)) != 56)) rfl rfl (fun hb29 => ?_) (fun hb29 => ?_)
  · replace h := h.1 (bne_iff_ne.mp hb29)
    refine y_skip ?_
    refine y_then (hK11 _ _ ?_)
    refine y_block ?_
    refine y_region ?_
    refine y_k (.slice l3_7.a l3_7.n l3_7.c : Value) w_8 rfl rfl rfl (by kernel_rfl) ?_
    refine y_k (.slice (some ⟨w_8.heap.size, 0, none⟩) 1 1 : Value) (w_8.alloc (.cells #[.int .u8 0] 5)) rfl rfl rfl (by kernel_rfl) ?_
    replace h := h _ rfl
    generalize w_8.alloc (.cells #[.int .u8 0] 5) = w_9 at h ⊢
    obtain ⟨t18_10, w_11, hx14, h⟩ := h
    refine y_v (s := Builtin.append_ #[33, 33] 33 #[.slice l3_7.a l3_7.n l3_7.c, .slice (some ⟨w_8.heap.size, 0, none⟩) 1 1]) rfl rfl rfl (by kernel_rfl) hx14 ?_
    refine y_k (.slice t18_10.a t18_10.n t18_10.c : Value) w_11 rfl rfl rfl (by kernel_rfl) ?_
    refine y_nil ?_
    refine e_block_n ?_
    refine y_then (hN10 (t18_10) _ _ h ?_)
    dsimp only
    refine upd_id ?_ rfl
    refine upd_id ?_ rfl
    rfl
  · replace h := h.2 (bne_eq_false_iff_eq.mp hb29)
    refine y_exit ?_
    repeat (first | refine e_then_x ?_ | refine e_block_y rfl ?_)
    refine e_block_x ?_
    refine y_then (hK7 _ _ ?_)
    refine y_seq fun K15 hK15 => ?_
    refine y_region ?_
    refine y_k (.slice b0_1.a b0_1.n b0_1.c : Value) w_8 rfl rfl rfl (by kernel_rfl) ?_
    refine y_k (.int .i64 ((b0_1.n : Int)) : Value) w_8 rfl rfl rfl (by kernel_rfl) ?_
    refine y_k (.int .u64 (IntKind.u64.wrap ((b0_1.n : Int))) : Value) w_8 rfl rfl rfl (by kernel_rfl) ?_
    refine y_k (.int .u64 (IntKind.u64.wrap ((IntKind.u64.wrap ((b0_1.n : Int))) * 8)) : Value) w_8 rfl rfl rfl (by kernel_rfl) ?_
    refine y_k (.int .u64 (IntKind.u64.wrap ((IntKind.u64.wrap ((b0_1.n : Int))) * 8)) : Value) w_8 rfl rfl rfl (by kernel_rfl) ?_
    refine y_nil ?_
    refine y_then (hK15 _ _ ?_)
    refine y_seq fun K16 hK16 => ?_
    refine y_seq fun K17 hK17 => ?_
    refine y_region ?_
    refine y_k (.int .i64 7 : Value) w_8 rfl rfl rfl (by kernel_rfl) ?_
    refine y_nil ?_
    refine y_then (hK17 _ _ ?_)
    refine y_block ?_
    refine y_loop (S := Sl × Int) (fun s j => match s with | (l3_12, i5_13) => upd (upd (upd (j) 3 (.slice l3_12.a l3_12.n l3_12.c : Value)) 4 (.int .u64 (IntKind.u64.wrap ((IntKind.u64.wrap ((b0_1.n : Int))) * 8)) : Value)) 5 (.int .i64 i5_13 : Value)) (l3_7, 7) ?_ h ?_
    · dsimp only
      refine upd_id ?_ rfl
      refine upd_id ?_ rfl
      refine upd_id ?_ rfl
      rfl
    rintro KN20 next19 hN20 ⟨l3_12, i5_13⟩ j w_14 h
    unfold F76_l2 at h
    refine y_seq fun K21 hK21 => ?_
    refine y_seq fun K22 hK22 => ?_
    refine y_region ?_
    refine y_k (.int .i64 i5_13 : Value) w_14 rfl rfl rfl (by kernel_rfl) ?_
    refine y_k (.bool (decide (i5_13 ≥ 0)) : Value) w_14 rfl rfl rfl (by kernel_rfl) ?_
    refine y_nil ?_
    refine y_then (hK22 _ _ ?_)
    refine y_cond (decide (i5_13 ≥ 0)) rfl rfl (fun hb28 => ?_) (fun hb28 => ?_)
    · replace h := h.1 (of_decide_eq_true hb28)
      refine y_skip ?_
      refine y_then (hK21 _ _ ?_)
      refine y_seq fun K23 hK23 => ?_
      refine y_block ?_
      refine y_region ?_
      refine y_k (.slice l3_12.a l3_12.n l3_12.c : Value) w_14 rfl rfl rfl (by kernel_rfl) ?_
      refine y_k (.int .u64 (IntKind.u64.wrap ((IntKind.u64.wrap ((b0_1.n : Int))) * 8)) : Value) w_14 rfl rfl rfl (by kernel_rfl) ?_
      refine y_k (.int .i64 i5_13 : Value) w_14 rfl rfl rfl (by kernel_rfl) ?_
      refine y_k (.int .i64 (IntKind.i64.wrap (8 * i5_13)) : Value) w_14 rfl rfl rfl (by kernel_rfl) ?_
      obtain ⟨hx25, h⟩ := h
      refine y_k (.int .u64 (ishr .u64 (IntKind.u64.wrap ((IntKind.u64.wrap ((b0_1.n : Int))) * 8)) (IntKind.i64.wrap (8 * i5_13))) : Value) w_14 rfl rfl rfl (run_shr hx25 rfl rfl) ?_
      refine y_k (.int .u8 (IntKind.u8.wrap (ishr .u64 (IntKind.u64.wrap ((IntKind.u64.wrap ((b0_1.n : Int))) * 8)) (IntKind.i64.wrap (8 * i5_13)))) : Value) w_14 rfl rfl rfl (by kernel_rfl) ?_
      refine y_k (.slice (some ⟨w_14.heap.size, 0, none⟩) 1 1 : Value) (w_14.alloc (.cells #[.int .u8 (IntKind.u8.wrap (ishr .u64 (IntKind.u64.wrap ((IntKind.u64.wrap ((b0_1.n : Int))) * 8)) (IntKind.i64.wrap (8 * i5_13))))] 5)) rfl rfl rfl (by kernel_rfl) ?_
      replace h := h _ rfl
      generalize w_14.alloc (.cells #[.int .u8 (IntKind.u8.wrap (ishr .u64 (IntKind.u64.wrap ((IntKind.u64.wrap ((b0_1.n : Int))) * 8)) (IntKind.i64.wrap (8 * i5_13))))] 5) = w_15 at h ⊢
      obtain ⟨t34_16, w_17, hx26, h⟩ := h
      refine y_v (s := Builtin.append_ #[33, 33] 33 #[.slice l3_12.a l3_12.n l3_12.c, .slice (some ⟨w_14.heap.size, 0, none⟩) 1 1]) rfl rfl rfl (by kernel_rfl) hx26 ?_
      refine y_k (.slice t34_16.a t34_16.n t34_16.c : Value) w_17 rfl rfl rfl (by kernel_rfl) ?_
      refine y_nil ?_
      refine e_block_n ?_
      refine y_then (hK23 _ _ ?_)
      refine y_region ?_
      refine y_k (.int .i64 i5_13 : Value) w_17 rfl rfl rfl (by kernel_rfl) ?_
      refine y_k (.int .i64 (IntKind.i64.wrap (i5_13 - 1)) : Value) w_17 rfl rfl rfl (by kernel_rfl) ?_
      refine y_k (.int .i64 (IntKind.i64.wrap (i5_13 - 1)) : Value) w_17 rfl rfl rfl (by kernel_rfl) ?_
      refine y_nil ?_
      refine y_then (hN20 (t34_16, IntKind.i64.wrap (i5_13 - 1)) _ _ h ?_)
      dsimp only
      refine upd_id ?_ rfl
      refine upd_id ?_ rfl
      refine upd_id ?_ rfl
      rfl
    · replace h := h.2 (of_decide_eq_false hb28)
      refine y_exit ?_
      repeat (first | refine e_then_x ?_ | refine e_block_y rfl ?_)
      refine e_block_x ?_
      refine y_then (hK16 _ _ ?_)
      refine y_seq fun K27 hK27 => ?_
      refine y_region ?_
      refine y_k (.slice l3_12.a l3_12.n l3_12.c : Value) w_14 rfl rfl rfl (by kernel_rfl) ?_
      refine y_k (.slice l3_12.a l3_12.n l3_12.c : Value) w_14 rfl rfl rfl (by kernel_rfl) ?_
      refine y_nil ?_
      refine y_then (hK27 _ _ ?_)
      refine y_ret ?_
      repeat (first | refine e_then_r ?_ | refine e_block_r ?_)
      exact (hQ0 _ _ _ (res1 (v := (.slice l3_12.a l3_12.n l3_12.c : Value)) rfl rfl rfl) ⟨_, rfl, h⟩).1

def F44_l2 (K : Value → World → Prop) (w : World) (w_2 : World) (w_8 : World) (next22 : (Int) → World → Prop) : (Int) → World → Prop := fun (i7_30) w_31 =>
  ((i7_30 < 32 →
  (0 : Int) ≤ (IntKind.i64.wrap (Int.tdiv i7_30 4)) ∧ (IntKind.i64.wrap (Int.tdiv i7_30 4)) < 8 ∧
  ∃ (t32_32 : Int), w_31.cell? ((⟨w_2.heap.size, 0, none⟩ : Addr).add (Int.toNat (IntKind.i64.wrap (Int.tdiv i7_30 4)))) = some (.int .u32 t32_32) ∧
  (0 : Int) ≤ (IntKind.i64.wrap (24 - (IntKind.i64.wrap (8 * (Int.tmod i7_30 4))))) ∧
  (0 : Int) ≤ i7_30 ∧ i7_30 < 32 ∧
  HasCell w_31 ((⟨w_8.heap.size, 0, none⟩ : Addr).add (Int.toNat i7_30)) ∧ ∀ (w_33 : World), w_33 = w_31.setCell ((⟨w_8.heap.size, 0, none⟩ : Addr).add (Int.toNat i7_30)) (.int .u8 (IntKind.u8.wrap (ishr .u32 t32_32 (IntKind.i64.wrap (24 - (IntKind.i64.wrap (8 * (Int.tmod i7_30 4))))))) : Value) →
  next22 (IntKind.i64.wrap (i7_30 + 1)) w_33) ∧
  (¬ (i7_30 < 32) →
  ∃ (t40_34 : Value), (Instr.loadAt 50 (.pointer (some (⟨w_8.heap.size, 0, none⟩ : Addr)))).run Try.prog w_31 = .ok t40_34 w_31 ∧
  ∃ (w_35 : World), (Instr.storeAt 50 (.pointer (some (⟨w.heap.size, 0, none⟩ : Addr))) t40_34).run Try.prog w_31 = .ok () w_35 ∧
  ∃ (r0_36 : Value), (Instr.loadAt 50 (.pointer (some (⟨w.heap.size, 0, none⟩ : Addr)))).run Try.prog w_35 = .ok r0_36 w_35 ∧
  K r0_36 w_35))
def F44_l1 (K : Value → World → Prop) (w : World) (w_2 : World) (t10_5 : Sl) (next8 : (Int) → World → Prop) : (Int) → World → Prop := fun (i5_7) w_8 =>
  ((i5_7 < ((t10_5.n : Int)) →
  ∀ (w_9 : World), w_9 = w_8.drew →
  ∃ (t17_10 : Int), ∃ (t17_11 : Int), ∃ (t17_12 : Int), ∃ (t17_13 : Int), ∃ (t17_14 : Int), ∃ (t17_15 : Int), ∃ (t17_16 : Int), ∃ (t17_17 : Int), CellsAt w_9 (⟨w_2.heap.size, 0, none⟩ : Addr) 0 [.int .u32 t17_10, .int .u32 t17_11, .int .u32 t17_12, .int .u32 t17_13, .int .u32 t17_14, .int .u32 t17_15, .int .u32 t17_16, .int .u32 t17_17] ∧
  ∃ (t22_18 : Sl), (Instr.sliceAt 33 (.slice t10_5.a t10_5.n t10_5.c : Value) (some (.int .i64 i5_7 : Value)) (some (.int .i64 (IntKind.i64.wrap (i5_7 + 64)) : Value)) none).run Try.prog w_9 = .ok (.slice t22_18.a t22_18.n t22_18.c : Value) w_9 ∧
  Calls Try.prog 77 #[.agg #[.int .u32 t17_10, .int .u32 t17_11, .int .u32 t17_12, .int .u32 t17_13, .int .u32 t17_14, .int .u32 t17_15, .int .u32 t17_16, .int .u32 t17_17], .slice t22_18.a t22_18.n t22_18.c] w_9 fun e w_27 => ∃ (t23_19 : Int), ∃ (t23_20 : Int), ∃ (t23_21 : Int), ∃ (t23_22 : Int), ∃ (t23_23 : Int), ∃ (t23_24 : Int), ∃ (t23_25 : Int), ∃ (t23_26 : Int), e = .returned (.agg #[.int .u32 t23_19, .int .u32 t23_20, .int .u32 t23_21, .int .u32 t23_22, .int .u32 t23_23, .int .u32 t23_24, .int .u32 t23_25, .int .u32 t23_26] : Value) ∧ 
  HasCells w_27 (⟨w_2.heap.size, 0, none⟩ : Addr) 0 8 ∧ ∀ (w_28 : World), w_28 = setCells w_27 (⟨w_2.heap.size, 0, none⟩ : Addr) 0 [.int .u32 t23_19, .int .u32 t23_20, .int .u32 t23_21, .int .u32 t23_22, .int .u32 t23_23, .int .u32 t23_24, .int .u32 t23_25, .int .u32 t23_26] → 
  next8 (IntKind.i64.wrap (i5_7 + 64)) w_28) ∧
  (¬ (i5_7 < ((t10_5.n : Int))) →
  ∀ (w_29 : World), w_29 = w_8.alloc (.cells #[.int .u8 0, .int .u8 0, .int .u8 0, .int .u8 0, .int .u8 0, .int .u8 0, .int .u8 0, .int .u8 0, .int .u8 0, .int .u8 0, .int .u8 0, .int .u8 0, .int .u8 0, .int .u8 0, .int .u8 0, .int .u8 0, .int .u8 0, .int .u8 0, .int .u8 0, .int .u8 0, .int .u8 0, .int .u8 0, .int .u8 0, .int .u8 0, .int .u8 0, .int .u8 0, .int .u8 0, .int .u8 0, .int .u8 0, .int .u8 0, .int .u8 0, .int .u8 0] 50) →
  kLoop (F44_l2 K w w_2 w_8) (0) w_29))
/-- turnkey/turnkeyref02.Of -/
def F44 (b0_1 : Sl) (K : Value → World → Prop) (w : World) : Prop :=
  ∀ (w_2 : World), w_2 = w.alloc (.cells #[.int .u8 0, .int .u8 0, .int .u8 0, .int .u8 0, .int .u8 0, .int .u8 0, .int .u8 0, .int .u8 0, .int .u8 0, .int .u8 0, .int .u8 0, .int .u8 0, .int .u8 0, .int .u8 0, .int .u8 0, .int .u8 0, .int .u8 0, .int .u8 0, .int .u8 0, .int .u8 0, .int .u8 0, .int .u8 0, .int .u8 0, .int .u8 0, .int .u8 0, .int .u8 0, .int .u8 0, .int .u8 0, .int .u8 0, .int .u8 0, .int .u8 0, .int .u8 0] 50) →
  ∀ (w_3 : World), w_3 = w_2.alloc (.cells #[.int .u32 0, .int .u32 0, .int .u32 0, .int .u32 0, .int .u32 0, .int .u32 0, .int .u32 0, .int .u32 0] 94) →
  HasCells w_3 (⟨w_2.heap.size, 0, none⟩ : Addr) 0 8 ∧ ∀ (w_4 : World), w_4 = setCells w_3 (⟨w_2.heap.size, 0, none⟩ : Addr) 0 [.int .u32 1779033703, .int .u32 3144134277, .int .u32 1013904242, .int .u32 2773480762, .int .u32 1359893119, .int .u32 2600822924, .int .u32 528734635, .int .u32 1541459225] →
  Calls Try.prog 76 #[.slice b0_1.a b0_1.n b0_1.c] w_4 fun e w_6 => ∃ (t10_5 : Sl), e = .returned (.slice t10_5.a t10_5.n t10_5.c : Value) ∧
  kLoop (F44_l1 K w w_2 t10_5) (0) w_6
set_option maxHeartbeats 4000000 in
set_option maxRecDepth 20000 in
theorem F44_sound (b0_1 : Sl) (K : Value → World → Prop) (w : World) (h : F44 b0_1 K w) :
    Calls Try.prog 44 #[.slice b0_1.a b0_1.n b0_1.c] w (fun e w1 => ∃ (r0 : Value), e = .returned r0 ∧ K r0 w1) := by
  unfold F44 at h
  refine y_enter (n := 41) (args := [.slice b0_1.a b0_1.n b0_1.c]) Try.func44 rfl rfl rfl fun Q0 hQ0 => ?_
  refine y_seq fun K1 hK1 => ?_
  refine y_region ?_
  refine y_k (.pointer (some (⟨w.heap.size, 0, none⟩ : Addr)) : Value) (w.alloc (.cells #[.int .u8 0, .int .u8 0, .int .u8 0, .int .u8 0, .int .u8 0, .int .u8 0, .int .u8 0, .int .u8 0, .int .u8 0, .int .u8 0, .int .u8 0, .int .u8 0, .int .u8 0, .int .u8 0, .int .u8 0, .int .u8 0, .int .u8 0, .int .u8 0, .int .u8 0, .int .u8 0, .int .u8 0, .int .u8 0, .int .u8 0, .int .u8 0, .int .u8 0, .int .u8 0, .int .u8 0, .int .u8 0, .int .u8 0, .int .u8 0, .int .u8 0, .int .u8 0] 50)) rfl rfl rfl (by kernel_rfl) ?_
  replace h := h _ rfl
  generalize w.alloc (.cells #[.int .u8 0, .int .u8 0, .int .u8 0, .int .u8 0, .int .u8 0, .int .u8 0, .int .u8 0, .int .u8 0, .int .u8 0, .int .u8 0, .int .u8 0, .int .u8 0, .int .u8 0, .int .u8 0, .int .u8 0, .int .u8 0, .int .u8 0, .int .u8 0, .int .u8 0, .int .u8 0, .int .u8 0, .int .u8 0, .int .u8 0, .int .u8 0, .int .u8 0, .int .u8 0, .int .u8 0, .int .u8 0, .int .u8 0, .int .u8 0, .int .u8 0, .int .u8 0] 50) = w_2 at h ⊢
  refine y_nil ?_
  refine y_then (hK1 _ _ ?_)
  refine y_seq fun K2 hK2 => ?_
  refine y_region ?_
  refine y_k (.agg #[.int .u32 1779033703, .int .u32 3144134277, .int .u32 1013904242, .int .u32 2773480762, .int .u32 1359893119, .int .u32 2600822924, .int .u32 528734635, .int .u32 1541459225] : Value) w_2 rfl rfl rfl (by kernel_rfl) ?_
  refine y_k (.pointer (some (⟨w_2.heap.size, 0, none⟩ : Addr)) : Value) (w_2.alloc (.cells #[.int .u32 0, .int .u32 0, .int .u32 0, .int .u32 0, .int .u32 0, .int .u32 0, .int .u32 0, .int .u32 0] 94)) rfl rfl rfl (by kernel_rfl) ?_
  replace h := h _ rfl
  generalize w_2.alloc (.cells #[.int .u32 0, .int .u32 0, .int .u32 0, .int .u32 0, .int .u32 0, .int .u32 0, .int .u32 0, .int .u32 0] 94) = w_3 at h ⊢
  obtain ⟨hx3, h⟩ := h
  replace h := h _ rfl
  refine y_u (s := Instr.storeAt 94 (.pointer (some (⟨w_2.heap.size, 0, none⟩ : Addr))) (.agg #[.int .u32 1779033703, .int .u32 3144134277, .int .u32 1013904242, .int .u32 2773480762, .int .u32 1359893119, .int .u32 2600822924, .int .u32 528734635, .int .u32 1541459225] : Value)) rfl rfl (by kernel_rfl) (rn_storecells (k := 8) (cs := [.int .u32 1779033703, .int .u32 3144134277, .int .u32 1013904242, .int .u32 2773480762, .int .u32 1359893119, .int .u32 2600822924, .int .u32 528734635, .int .u32 1541459225]) (by kernel_rfl) rfl (by simp [Value.oneCell']) hx3) ?_
  generalize setCells w_3 (⟨w_2.heap.size, 0, none⟩ : Addr) 0 [.int .u32 1779033703, .int .u32 3144134277, .int .u32 1013904242, .int .u32 2773480762, .int .u32 1359893119, .int .u32 2600822924, .int .u32 528734635, .int .u32 1541459225] = w_4 at h ⊢
  refine y_nil ?_
  refine y_then (hK2 _ _ ?_)
  refine y_seq fun K4 hK4 => ?_
  refine y_region ?_
  refine y_k (.slice b0_1.a b0_1.n b0_1.c : Value) w_4 rfl rfl rfl (by kernel_rfl) ?_
  refine y_call rfl rfl rfl (by kernel_rfl) (h.mono ?_)
  rintro _ w_6 ⟨t10_5, rfl, h⟩
  refine ⟨_, rfl, ?_⟩
  refine y_k (.slice t10_5.a t10_5.n t10_5.c : Value) w_6 rfl rfl rfl (by kernel_rfl) ?_
  refine y_nil ?_
  refine y_then (hK4 _ _ ?_)
  refine y_seq fun K5 hK5 => ?_
  refine y_seq fun K6 hK6 => ?_
  refine y_region ?_
  refine y_k (.int .i64 0 : Value) w_6 rfl rfl rfl (by kernel_rfl) ?_
  refine y_nil ?_
  refine y_then (hK6 _ _ ?_)
  refine y_block ?_
  refine y_loop (S := Int) (fun s j => match s with | (i5_7) => upd (upd (upd (upd (j) 2 (.pointer (some (⟨w.heap.size, 0, none⟩ : Addr)) : Value)) 3 (.pointer (some (⟨w_2.heap.size, 0, none⟩ : Addr)) : Value)) 4 (.slice t10_5.a t10_5.n t10_5.c : Value)) 5 (.int .i64 i5_7 : Value)) (0) ?_ h ?_
  · dsimp only
    refine upd_id ?_ rfl
    refine upd_id ?_ rfl
    refine upd_id ?_ rfl
    refine upd_id ?_ rfl
    rfl
  rintro KN9 next8 hN9 i5_7 j w_8 h
  unfold F44_l1 at h
  refine y_seq fun K10 hK10 => ?_
  refine y_seq fun K11 hK11 => ?_
  refine y_region ?_
  refine y_k (.int .i64 i5_7 : Value) w_8 rfl rfl rfl (by kernel_rfl) ?_
  refine y_k (.slice t10_5.a t10_5.n t10_5.c : Value) w_8 rfl rfl rfl (by kernel_rfl) ?_
  refine y_k (.int .i64 ((t10_5.n : Int)) : Value) w_8 rfl rfl rfl (by kernel_rfl) ?_
  refine y_k (.bool (decide (i5_7 < ((t10_5.n : Int)))) : Value) w_8 rfl rfl rfl (by kernel_rfl) ?_
  refine y_nil ?_
  refine y_then (hK11 _ _ ?_)
  refine y_cond (decide (i5_7 < ((t10_5.n : Int)))) rfl rfl (fun hb38 => ?_) (fun hb38 => ?_)
  · replace h := h.1 (of_decide_eq_true hb38)
    refine y_skip ?_
    refine y_then (hK10 _ _ ?_)
    refine y_seq fun K12 hK12 => ?_
    refine y_block ?_
    obtain ⟨w_9, hwd14⟩ : ∃ wd : World, wd = w_8.drew := ⟨_, rfl⟩
    replace h := h _ hwd14
    refine t_region (wd := w_9) [] (by kernel_rfl) hwd14 SF_nil fun Q14 hE14 hp14 hS => ?_
    clear hwd14
    obtain ⟨t17_10, t17_11, t17_12, t17_13, t17_14, t17_15, t17_16, t17_17, hx15, h⟩ := h
    refine t_add ⟨0, [6, 7], fun wx => CellsAt wx (⟨w_2.heap.size, 0, none⟩ : Addr) 0 [.int .u32 t17_10, .int .u32 t17_11, .int .u32 t17_12, .int .u32 t17_13, .int .u32 t17_14, .int .u32 t17_15, .int .u32 t17_16, .int .u32 t17_17]⟩ ?_
    replace hS := SF_on (x := ⟨0, [6, 7], fun wx => CellsAt wx (⟨w_2.heap.size, 0, none⟩ : Addr) 0 [.int .u32 t17_10, .int .u32 t17_11, .int .u32 t17_12, .int .u32 t17_13, .int .u32 t17_14, .int .u32 t17_15, .int .u32 t17_16, .int .u32 t17_17]⟩) hx15 hS
    refine t_v (s := Instr.loadAt 94 (.pointer (some (⟨w_2.heap.size, 0, none⟩ : Addr)))) hp14 hS 0 (.agg #[.int .u32 t17_10, .int .u32 t17_11, .int .u32 t17_12, .int .u32 t17_13, .int .u32 t17_14, .int .u32 t17_15, .int .u32 t17_16, .int .u32 t17_17] : Value) rfl (wanted_none rfl) rfl rfl (by kernel_rfl) (by kernel_rfl) (fun _ hw => rn_loadcells (k := 8) ⟨by kernel_rfl, by kernel_rfl⟩ rfl (Sw.fact (List.Mem.head _) rfl hw)) fun hS => ?_
    refine t_kw hp14 hS 1 (.slice t10_5.a t10_5.n t10_5.c : Value) rfl (wanted_none rfl) rfl rfl (by kernel_rfl) (fun _ _ => by kernel_rfl) fun hS => ?_
    refine t_kw hp14 hS 2 (.int .i64 i5_7 : Value) rfl (wanted_none rfl) rfl rfl (by kernel_rfl) (fun _ _ => by kernel_rfl) fun hS => ?_
    refine t_kw hp14 hS 3 (.int .i64 i5_7 : Value) rfl (wanted_none rfl) rfl rfl (by kernel_rfl) (fun _ _ => by kernel_rfl) fun hS => ?_
    refine t_kw hp14 hS 4 (.int .i64 (IntKind.i64.wrap (i5_7 + 64)) : Value) rfl (wanted_none rfl) rfl rfl (by kernel_rfl) (fun _ _ => by kernel_rfl) fun hS => ?_
    obtain ⟨t22_18, hx16, h⟩ := h
    refine t_add ⟨5, [6, 7], fun wx => (Instr.sliceAt 33 (.slice t10_5.a t10_5.n t10_5.c : Value) (some (.int .i64 i5_7 : Value)) (some (.int .i64 (IntKind.i64.wrap (i5_7 + 64)) : Value)) none).run Try.prog wx = .ok (.slice t22_18.a t22_18.n t22_18.c : Value) wx⟩ ?_
    replace hS := SF_on (x := ⟨5, [6, 7], fun wx => (Instr.sliceAt 33 (.slice t10_5.a t10_5.n t10_5.c : Value) (some (.int .i64 i5_7 : Value)) (some (.int .i64 (IntKind.i64.wrap (i5_7 + 64)) : Value)) none).run Try.prog wx = .ok (.slice t22_18.a t22_18.n t22_18.c : Value) wx⟩) hx16 hS
    refine t_v (s := Instr.sliceAt 33 (.slice t10_5.a t10_5.n t10_5.c : Value) (some (.int .i64 i5_7 : Value)) (some (.int .i64 (IntKind.i64.wrap (i5_7 + 64)) : Value)) none) hp14 hS 5 (.slice t22_18.a t22_18.n t22_18.c : Value) rfl (wanted_none rfl) rfl rfl (by kernel_rfl) (by kernel_rfl) (fun _ hw => (Sw.fact (List.Mem.head _) rfl hw)) fun hS => ?_
    refine t_call 6 (by kernel_rfl) rfl (wanted_none rfl) rfl rfl (by kernel_rfl) (h.mono ?_)
    rintro _ w_27 ⟨t23_19, t23_20, t23_21, t23_22, t23_23, t23_24, t23_25, t23_26, rfl, h⟩
    refine ⟨_, rfl, (SF_off (by kernel_rfl) (by kernel_rfl) (SF_off (by kernel_rfl) (by kernel_rfl) SF_nil)), fun hS => ?_⟩
    obtain ⟨hx17, h⟩ := h
    replace h := h _ rfl
    refine t_u 7 (s := Instr.storeAt 94 (.pointer (some (⟨w_2.heap.size, 0, none⟩ : Addr))) (.agg #[.int .u32 t23_19, .int .u32 t23_20, .int .u32 t23_21, .int .u32 t23_22, .int .u32 t23_23, .int .u32 t23_24, .int .u32 t23_25, .int .u32 t23_26] : Value)) (by kernel_rfl) rfl (wanted_none rfl) rfl (by kernel_rfl) (rn_storecells (k := 8) (cs := [.int .u32 t23_19, .int .u32 t23_20, .int .u32 t23_21, .int .u32 t23_22, .int .u32 t23_23, .int .u32 t23_24, .int .u32 t23_25, .int .u32 t23_26]) (by kernel_rfl) rfl (by simp [Value.oneCell']) hx17) (SF_off (by kernel_rfl) (by kernel_rfl) (SF_off (by kernel_rfl) (by kernel_rfl) SF_nil)) fun hS => ?_
    generalize setCells w_27 (⟨w_2.heap.size, 0, none⟩ : Addr) 0 [.int .u32 t23_19, .int .u32 t23_20, .int .u32 t23_21, .int .u32 t23_22, .int .u32 t23_23, .int .u32 t23_24, .int .u32 t23_25, .int .u32 t23_26] = w_28 at hS h ⊢
    refine t_done (by kernel_rfl) (hE14 _ _ ?_)
    refine e_block_n ?_
    refine y_then (hK12 _ _ ?_)
    refine y_region ?_
    refine y_k (.int .i64 i5_7 : Value) w_28 rfl rfl rfl (by kernel_rfl) ?_
    refine y_k (.int .i64 (IntKind.i64.wrap (i5_7 + 64)) : Value) w_28 rfl rfl rfl (by kernel_rfl) ?_
    refine y_k (.int .i64 (IntKind.i64.wrap (i5_7 + 64)) : Value) w_28 rfl rfl rfl (by kernel_rfl) ?_
    refine y_nil ?_
    refine y_then (hN9 (IntKind.i64.wrap (i5_7 + 64)) _ _ h ?_)
    dsimp only
    refine upd_id ?_ rfl
    refine upd_id ?_ rfl
    refine upd_id ?_ rfl
    refine upd_id ?_ rfl
    rfl
  · replace h := h.2 (of_decide_eq_false hb38)
    refine y_exit ?_
    repeat (first | refine e_then_x ?_ | refine e_block_y rfl ?_)
    refine e_block_x ?_
    refine y_then (hK5 _ _ ?_)
    refine y_seq fun K18 hK18 => ?_
    refine y_region ?_
    refine y_k (.pointer (some (⟨w_8.heap.size, 0, none⟩ : Addr)) : Value) (w_8.alloc (.cells #[.int .u8 0, .int .u8 0, .int .u8 0, .int .u8 0, .int .u8 0, .int .u8 0, .int .u8 0, .int .u8 0, .int .u8 0, .int .u8 0, .int .u8 0, .int .u8 0, .int .u8 0, .int .u8 0, .int .u8 0, .int .u8 0, .int .u8 0, .int .u8 0, .int .u8 0, .int .u8 0, .int .u8 0, .int .u8 0, .int .u8 0, .int .u8 0, .int .u8 0, .int .u8 0, .int .u8 0, .int .u8 0, .int .u8 0, .int .u8 0, .int .u8 0, .int .u8 0] 50)) rfl rfl rfl (by kernel_rfl) ?_
    replace h := h _ rfl
    generalize w_8.alloc (.cells #[.int .u8 0, .int .u8 0, .int .u8 0, .int .u8 0, .int .u8 0, .int .u8 0, .int .u8 0, .int .u8 0, .int .u8 0, .int .u8 0, .int .u8 0, .int .u8 0, .int .u8 0, .int .u8 0, .int .u8 0, .int .u8 0, .int .u8 0, .int .u8 0, .int .u8 0, .int .u8 0, .int .u8 0, .int .u8 0, .int .u8 0, .int .u8 0, .int .u8 0, .int .u8 0, .int .u8 0, .int .u8 0, .int .u8 0, .int .u8 0, .int .u8 0, .int .u8 0] 50) = w_29 at h ⊢
    refine y_nil ?_
    refine y_then (hK18 _ _ ?_)
    refine y_seq fun K19 hK19 => ?_
    refine y_seq fun K20 hK20 => ?_
    refine y_region ?_
    refine y_k (.int .i64 0 : Value) w_29 rfl rfl rfl (by kernel_rfl) ?_
    refine y_nil ?_
    refine y_then (hK20 _ _ ?_)
    refine y_block ?_
    refine y_loop (S := Int) (fun s j => match s with | (i7_30) => upd (upd (upd (upd (j) 2 (.pointer (some (⟨w.heap.size, 0, none⟩ : Addr)) : Value)) 3 (.pointer (some (⟨w_2.heap.size, 0, none⟩ : Addr)) : Value)) 6 (.pointer (some (⟨w_8.heap.size, 0, none⟩ : Addr)) : Value)) 7 (.int .i64 i7_30 : Value)) (0) ?_ h ?_
    · dsimp only
      refine upd_id ?_ rfl
      refine upd_id ?_ rfl
      refine upd_id ?_ rfl
      refine upd_id ?_ rfl
      rfl
    rintro KN23 next22 hN23 i7_30 j w_31 h
    unfold F44_l2 at h
    refine y_seq fun K24 hK24 => ?_
    refine y_seq fun K25 hK25 => ?_
    refine y_region ?_
    refine y_k (.int .i64 i7_30 : Value) w_31 rfl rfl rfl (by kernel_rfl) ?_
    refine y_k (.bool (decide (i7_30 < 32)) : Value) w_31 rfl rfl rfl (by kernel_rfl) ?_
    refine y_nil ?_
    refine y_then (hK25 _ _ ?_)
    refine y_cond (decide (i7_30 < 32)) rfl rfl (fun hb37 => ?_) (fun hb37 => ?_)
    · replace h := h.1 (of_decide_eq_true hb37)
      refine y_skip ?_
      refine y_then (hK24 _ _ ?_)
      refine y_seq fun K26 hK26 => ?_
      refine y_block ?_
      refine y_region ?_
      refine y_k (.int .i64 i7_30 : Value) w_31 rfl rfl rfl (by kernel_rfl) ?_
      refine y_k (.int .i64 i7_30 : Value) w_31 rfl rfl rfl (by kernel_rfl) ?_
      refine y_k (.int .i64 (IntKind.i64.wrap (Int.tdiv i7_30 4)) : Value) w_31 rfl rfl rfl (by kernel_rfl) ?_
      obtain ⟨hx28a, hx28b, h⟩ := h
      refine y_v (v := (.pointer (some ((⟨w_2.heap.size, 0, none⟩ : Addr).add (Int.toNat (IntKind.i64.wrap (Int.tdiv i7_30 4))))) : Value)) (s := Instr.indexAt 94 (.pointer (some (⟨w_2.heap.size, 0, none⟩ : Addr)) : Value) (.int .i64 (IntKind.i64.wrap (Int.tdiv i7_30 4)) : Value)) rfl rfl rfl (by kernel_rfl) (run_ixa1 (el := 23) (by kernel_rfl) (by kernel_rfl) hx28a hx28b) ?_
      obtain ⟨t32_32, hx29, h⟩ := h
      refine y_v (s := Instr.loadAt 23 (.pointer (some ((⟨w_2.heap.size, 0, none⟩ : Addr).add (Int.toNat (IntKind.i64.wrap (Int.tdiv i7_30 4))))))) rfl rfl rfl (by kernel_rfl) (rn_load (by kernel_rfl) hx29) ?_
      refine y_k (.int .i64 i7_30 : Value) w_31 rfl rfl rfl (by kernel_rfl) ?_
      refine y_k (.int .i64 (Int.tmod i7_30 4) : Value) w_31 rfl rfl rfl (by kernel_rfl) ?_
      refine y_k (.int .i64 (IntKind.i64.wrap (8 * (Int.tmod i7_30 4))) : Value) w_31 rfl rfl rfl (by kernel_rfl) ?_
      refine y_k (.int .i64 (IntKind.i64.wrap (24 - (IntKind.i64.wrap (8 * (Int.tmod i7_30 4))))) : Value) w_31 rfl rfl rfl (by kernel_rfl) ?_
      obtain ⟨hx30, h⟩ := h
      refine y_k (.int .u32 (ishr .u32 t32_32 (IntKind.i64.wrap (24 - (IntKind.i64.wrap (8 * (Int.tmod i7_30 4)))))) : Value) w_31 rfl rfl rfl (run_shr hx30 rfl rfl) ?_
      refine y_k (.int .u8 (IntKind.u8.wrap (ishr .u32 t32_32 (IntKind.i64.wrap (24 - (IntKind.i64.wrap (8 * (Int.tmod i7_30 4))))))) : Value) w_31 rfl rfl rfl (by kernel_rfl) ?_
      obtain ⟨hx31a, hx31b, h⟩ := h
      refine y_v (v := (.pointer (some ((⟨w_8.heap.size, 0, none⟩ : Addr).add (Int.toNat i7_30))) : Value)) (s := Instr.indexAt 50 (.pointer (some (⟨w_8.heap.size, 0, none⟩ : Addr)) : Value) (.int .i64 i7_30 : Value)) rfl rfl rfl (by kernel_rfl) (run_ixa1 (el := 5) (by kernel_rfl) (by kernel_rfl) hx31a hx31b) ?_
      obtain ⟨hx32, h⟩ := h
      replace h := h _ rfl
      refine y_u (s := Instr.storeAt 5 (.pointer (some ((⟨w_8.heap.size, 0, none⟩ : Addr).add (Int.toNat i7_30)))) (.int .u8 (IntKind.u8.wrap (ishr .u32 t32_32 (IntKind.i64.wrap (24 - (IntKind.i64.wrap (8 * (Int.tmod i7_30 4))))))) : Value)) rfl rfl (by kernel_rfl) (rn_store1 (by kernel_rfl) rfl hx32) ?_
      generalize w_31.setCell ((⟨w_8.heap.size, 0, none⟩ : Addr).add (Int.toNat i7_30)) (.int .u8 (IntKind.u8.wrap (ishr .u32 t32_32 (IntKind.i64.wrap (24 - (IntKind.i64.wrap (8 * (Int.tmod i7_30 4))))))) : Value) = w_33 at h ⊢
      refine y_nil ?_
      refine e_block_n ?_
      refine y_then (hK26 _ _ ?_)
      refine y_region ?_
      refine y_k (.int .i64 i7_30 : Value) w_33 rfl rfl rfl (by kernel_rfl) ?_
      refine y_k (.int .i64 (IntKind.i64.wrap (i7_30 + 1)) : Value) w_33 rfl rfl rfl (by kernel_rfl) ?_
      refine y_k (.int .i64 (IntKind.i64.wrap (i7_30 + 1)) : Value) w_33 rfl rfl rfl (by kernel_rfl) ?_
      refine y_nil ?_
      refine y_then (hN23 (IntKind.i64.wrap (i7_30 + 1)) _ _ h ?_)
      dsimp only
      refine upd_id ?_ rfl
      refine upd_id ?_ rfl
      refine upd_id ?_ rfl
      refine upd_id ?_ rfl
      rfl
    · replace h := h.2 (of_decide_eq_false hb37)
      refine y_exit ?_
      repeat (first | refine e_then_x ?_ | refine e_block_y rfl ?_)
      refine e_block_x ?_
      refine y_then (hK19 _ _ ?_)
      refine y_seq fun K33 hK33 => ?_
      refine y_region ?_
      obtain ⟨t40_34, hx34, h⟩ := h
      refine y_v (s := Instr.loadAt 50 (.pointer (some (⟨w_8.heap.size, 0, none⟩ : Addr)))) rfl rfl rfl (by kernel_rfl) (hx34) ?_
      obtain ⟨w_35, hx35, h⟩ := h
      refine y_u (s := Instr.storeAt 50 (.pointer (some (⟨w.heap.size, 0, none⟩ : Addr))) t40_34) rfl rfl (by kernel_rfl) hx35 ?_
      refine y_nil ?_
      refine y_then (hK33 _ _ ?_)
      refine y_ret ?_
      repeat (first | refine e_then_r ?_ | refine e_block_r ?_)
      obtain ⟨r0_36, hx36, h⟩ := h
      exact (hQ0 _ _ _ (rs1 rfl (rs_cell (v := r0_36) (ad := (⟨w.heap.size, 0, none⟩ : Addr)) rfl rfl (hx36))) ⟨_, rfl, h⟩).1

end Go.Proofs.Ytjgijifankaglaa
