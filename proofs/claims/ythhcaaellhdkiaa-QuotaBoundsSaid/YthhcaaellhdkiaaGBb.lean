/- Printed by gen.py (own program, wip/): for each Go function a predicate transformer and its soundness. -/
import Derived.Test.YthhcaaellhdkiaaProg
import Derived.Test.YthhcaaellhdkiaaST
namespace Go.Proofs.Ythhcaaellhdkiaa
open Go Go.RowKit Go.Proofs.Ythhcaaellhdkiaa.SX
set_option linter.unusedVariables false

/-- turnkey/turnkeyref03.NewWriter -/
def F34  (K : Option Addr → World → Prop) (w : World) : Prop :=
  ∀ (w_1 : World), w_1 = w.alloc (.cells #[.slice none 0 0] 113) →
  K (some (⟨w.heap.size, 0, none⟩ : Addr)) w_1
set_option maxHeartbeats 4000000 in
set_option maxRecDepth 20000 in
theorem F34_sound  (K : Option Addr → World → Prop) (w : World) (h : F34  K w) :
    Calls Try.prog 34 #[] w (fun e w1 => ∃ (r0 : Option Addr), e = .returned (.pointer r0 : Value) ∧ K r0 w1) := by
  unfold F34 at h
  refine y_enter (n := 3) (args := []) Try.func34 rfl rfl rfl fun Q0 hQ0 => ?_
  refine y_seq fun K1 hK1 => ?_
  refine y_region ?_
  refine y_k (.pointer none : Value) w rfl rfl rfl (by kernel_rfl) ?_
  refine y_nil ?_
  refine y_then (hK1 _ _ ?_)
  refine y_seq fun K2 hK2 => ?_
  refine y_region ?_
  refine y_k (.agg #[.slice none 0 0] : Value) w rfl rfl rfl (by kernel_rfl) ?_
  refine y_k (.pointer (some (⟨w.heap.size, 0, none⟩ : Addr)) : Value) (w.alloc (.cells #[.slice none 0 0] 113)) rfl rfl rfl (by kernel_rfl) ?_
  replace h := h _ rfl
  generalize w.alloc (.cells #[.slice none 0 0] 113) = w_1 at h ⊢
  refine y_k (.pointer (some (⟨w.heap.size, 0, none⟩ : Addr)) : Value) w_1 rfl rfl rfl (by kernel_rfl) ?_
  refine y_nil ?_
  refine y_then (hK2 _ _ ?_)
  refine y_ret ?_
  repeat (first | refine e_then_r ?_ | refine e_block_r ?_)
  exact (hQ0 _ _ _ (res1 (v := (.pointer (some (⟨w.heap.size, 0, none⟩ : Addr)) : Value)) rfl rfl rfl) ⟨_, rfl, h⟩).1

/-- turnkey/turnkeyref03.clamped -/
def F72 (n0_1 : Int) (K : Int → World → Prop) (w : World) : Prop :=
  K ((if ((if n0_1 < 64 then n0_1 else 64)) > 0 then ((if n0_1 < 64 then n0_1 else 64)) else 0)) w
set_option maxHeartbeats 4000000 in
set_option maxRecDepth 20000 in
theorem F72_sound (n0_1 : Int) (K : Int → World → Prop) (w : World) (h : F72 n0_1 K w) :
    Calls Try.prog 72 #[.int .i64 n0_1] w (fun e w1 => ∃ (r0 : Int), e = .returned (.int .i64 r0 : Value) ∧ K r0 w1) := by
  unfold F72 at h
  refine y_enter (n := 6) (args := [.int .i64 n0_1]) Try.func72 rfl rfl rfl fun Q0 hQ0 => ?_
  refine y_seq fun K1 hK1 => ?_
  refine y_region ?_
  refine y_k (.int .i64 0 : Value) w rfl rfl rfl (by kernel_rfl) ?_
  refine y_nil ?_
  refine y_then (hK1 _ _ ?_)
  refine y_seq fun K2 hK2 => ?_
  refine y_region ?_
  refine y_k (.int .i64 n0_1 : Value) w rfl rfl rfl (by kernel_rfl) ?_
  refine y_v (v := (.int .i64 ((if n0_1 < 64 then n0_1 else 64)) : Value)) (s := Builtin.min_ #[3, 3] 3 #[.int .i64 64, .int .i64 n0_1]) rfl rfl rfl (by kernel_rfl) (run_min2) ?_
  refine y_v (v := (.int .i64 ((if ((if n0_1 < 64 then n0_1 else 64)) > 0 then ((if n0_1 < 64 then n0_1 else 64)) else 0)) : Value)) (s := Builtin.max_ #[3, 3] 3 #[.int .i64 0, .int .i64 ((if n0_1 < 64 then n0_1 else 64))]) rfl rfl rfl (by kernel_rfl) (run_max2) ?_
  refine y_k (.int .i64 ((if ((if n0_1 < 64 then n0_1 else 64)) > 0 then ((if n0_1 < 64 then n0_1 else 64)) else 0)) : Value) w rfl rfl rfl (by kernel_rfl) ?_
  refine y_nil ?_
  refine y_then (hK2 _ _ ?_)
  refine y_ret ?_
  repeat (first | refine e_then_r ?_ | refine e_block_r ?_)
  exact (hQ0 _ _ _ (res1 (v := (.int .i64 ((if ((if n0_1 < 64 then n0_1 else 64)) > 0 then ((if n0_1 < 64 then n0_1 else 64)) else 0)) : Value)) rfl rfl rfl) ⟨_, rfl, h⟩).1

def F38_l2 (b0_1 : Sl) (w : World) (i4_3 : Int) (next6 : (Int) → World → Prop) (next14 : (Int) → World → Prop) : (Int) → World → Prop := fun (k5_5) w_6 =>
  ((k5_5 ≥ 0 →
  ∀ (w_7 : World), w_7 = w_6.drew →
  ∃ (t22_8 : Sl), w_7.cell? (⟨w.heap.size, 0, none⟩ : Addr) = some (.slice t22_8.a t22_8.n t22_8.c) ∧
  (0 : Int) ≤ i4_3 ∧ i4_3 < (b0_1.n : Int) ∧ ∃ (a_9 : Addr), b0_1.a = some a_9 ∧
  ∃ (t26_10 : Int), w_7.cell? (a_9.add (Int.toNat i4_3)) = some (.int .u8 t26_10) ∧
  (0 : Int) ≤ k5_5 ∧
  ∀ (w_11 : World), w_11 = w_7.alloc (.cells #[.bool ((((ibits .and .u8 (ishr .u8 t26_10 k5_5) 1)) == 1))] 4) → 
  ∃ (t32_12 : Sl), ∃ (w_13 : World), (Builtin.append_ #[111, 111] 111 #[.slice t22_8.a t22_8.n t22_8.c, .slice (some ⟨w_7.heap.size, 0, none⟩) 1 1]).run Try.prog w_11 = .ok (.slice t32_12.a t32_12.n t32_12.c : Value) w_13 ∧ 
  HasCell w_13 (⟨w.heap.size, 0, none⟩ : Addr) ∧ ∀ (w_14 : World), w_14 = w_13.setCell (⟨w.heap.size, 0, none⟩ : Addr) (.slice t32_12.a t32_12.n t32_12.c : Value) → 
  next14 (IntKind.i64.wrap (k5_5 - 1)) w_14) ∧
  (¬ (k5_5 ≥ 0) →
  next6 (IntKind.i64.wrap (i4_3 + 1)) w_6))
def F38_l1 (b0_1 : Sl) (K : Option Addr → World → Prop) (w : World) (next6 : (Int) → World → Prop) : (Int) → World → Prop := fun (i4_3) w_4 =>
  ((i4_3 < ((b0_1.n : Int)) →
  kLoop (F38_l2 b0_1 w i4_3 next6) (7) w_4) ∧
  (¬ (i4_3 < ((b0_1.n : Int))) →
  K (some (⟨w.heap.size, 0, none⟩ : Addr)) w_4))
/-- turnkey/turnkeyref03.NewReader -/
def F38 (b0_1 : Sl) (K : Option Addr → World → Prop) (w : World) : Prop :=
  ∀ (w_2 : World), w_2 = w.alloc (.cells #[.slice none 0 0, .int .i64 0] 117) →
  kLoop (F38_l1 b0_1 K w) (0) w_2
set_option maxHeartbeats 4000000 in
set_option maxRecDepth 20000 in
theorem F38_sound (b0_1 : Sl) (K : Option Addr → World → Prop) (w : World) (h : F38 b0_1 K w) :
    Calls Try.prog 38 #[.slice b0_1.a b0_1.n b0_1.c] w (fun e w1 => ∃ (r0 : Option Addr), e = .returned (.pointer r0 : Value) ∧ K r0 w1) := by
  unfold F38 at h
  refine y_enter (n := 36) (args := [.slice b0_1.a b0_1.n b0_1.c]) Try.func38 rfl rfl rfl fun Q0 hQ0 => ?_
  refine y_seq fun K1 hK1 => ?_
  refine y_region ?_
  refine y_k (.pointer none : Value) w rfl rfl rfl (by kernel_rfl) ?_
  refine y_nil ?_
  refine y_then (hK1 _ _ ?_)
  refine y_seq fun K2 hK2 => ?_
  refine y_region ?_
  refine y_k (.agg #[.slice none 0 0, .int .i64 0] : Value) w rfl rfl rfl (by kernel_rfl) ?_
  refine y_k (.pointer (some (⟨w.heap.size, 0, none⟩ : Addr)) : Value) (w.alloc (.cells #[.slice none 0 0, .int .i64 0] 117)) rfl rfl rfl (by kernel_rfl) ?_
  replace h := h _ rfl
  generalize w.alloc (.cells #[.slice none 0 0, .int .i64 0] 117) = w_2 at h ⊢
  refine y_k (.pointer (some (⟨w.heap.size, 0, none⟩ : Addr)) : Value) w_2 rfl rfl rfl (by kernel_rfl) ?_
  refine y_nil ?_
  refine y_then (hK2 _ _ ?_)
  refine y_seq fun K3 hK3 => ?_
  refine y_seq fun K4 hK4 => ?_
  refine y_region ?_
  refine y_k (.int .i64 0 : Value) w_2 rfl rfl rfl (by kernel_rfl) ?_
  refine y_nil ?_
  refine y_then (hK4 _ _ ?_)
  refine y_block ?_
  refine y_loop (S := Int) (fun s j => match s with | (i4_3) => upd (upd (upd (j) 0 (.slice b0_1.a b0_1.n b0_1.c : Value)) 3 (.pointer (some (⟨w.heap.size, 0, none⟩ : Addr)) : Value)) 4 (.int .i64 i4_3 : Value)) (0) ?_ h ?_
  · dsimp only
    refine upd_id ?_ rfl
    refine upd_id ?_ rfl
    refine upd_id ?_ rfl
    rfl
  rintro KN7 next6 hN7 i4_3 j w_4 h
  unfold F38_l1 at h
  refine y_seq fun K8 hK8 => ?_
  refine y_seq fun K9 hK9 => ?_
  refine y_region ?_
  refine y_k (.int .i64 i4_3 : Value) w_4 rfl rfl rfl (by kernel_rfl) ?_
  refine y_k (.slice b0_1.a b0_1.n b0_1.c : Value) w_4 rfl rfl rfl (by kernel_rfl) ?_
  refine y_k (.int .i64 ((b0_1.n : Int)) : Value) w_4 rfl rfl rfl (by kernel_rfl) ?_
  refine y_k (.bool (decide (i4_3 < ((b0_1.n : Int)))) : Value) w_4 rfl rfl rfl (by kernel_rfl) ?_
  refine y_nil ?_
  refine y_then (hK9 _ _ ?_)
  refine y_cond (decide (i4_3 < ((b0_1.n : Int)))) rfl rfl (fun hb30 => ?_) (fun hb30 => ?_)
  · replace h := h.1 (of_decide_eq_true hb30)
    refine y_skip ?_
    refine y_then (hK8 _ _ ?_)
    refine y_seq fun K10 hK10 => ?_
    refine y_block ?_
    refine y_seq fun K12 hK12 => ?_
    refine y_region ?_
    refine y_k (.int .i64 7 : Value) w_4 rfl rfl rfl (by kernel_rfl) ?_
    refine y_nil ?_
    refine y_then (hK12 _ _ ?_)
    refine y_block ?_
    refine y_loop (S := Int) (fun s j => match s with | (k5_5) => upd (upd (upd (upd (j) 0 (.slice b0_1.a b0_1.n b0_1.c : Value)) 3 (.pointer (some (⟨w.heap.size, 0, none⟩ : Addr)) : Value)) 4 (.int .i64 i4_3 : Value)) 5 (.int .i64 k5_5 : Value)) (7) ?_ h ?_
    · dsimp only
      refine upd_id ?_ rfl
      refine upd_id ?_ rfl
      refine upd_id ?_ rfl
      refine upd_id ?_ rfl
      rfl
    rintro KN15 next14 hN15 k5_5 j w_6 h
    unfold F38_l2 at h
    refine y_seq fun K16 hK16 => ?_
    refine y_seq fun K17 hK17 => ?_
    refine y_region ?_
    refine y_k (.int .i64 k5_5 : Value) w_6 rfl rfl rfl (by kernel_rfl) ?_
    refine y_k (.bool (decide (k5_5 ≥ 0)) : Value) w_6 rfl rfl rfl (by kernel_rfl) ?_
    refine y_nil ?_
    refine y_then (hK17 _ _ ?_)
    refine y_cond (decide (k5_5 ≥ 0)) rfl rfl (fun hb28 => ?_) (fun hb28 => ?_)
    · replace h := h.1 (of_decide_eq_true hb28)
      refine y_skip ?_
      refine y_then (hK16 _ _ ?_)
      refine y_seq fun K18 hK18 => ?_
      refine y_block ?_
      obtain ⟨w_7, hwd20⟩ : ∃ wd : World, wd = w_6.drew := ⟨_, rfl⟩
      replace h := h _ hwd20
      refine t_region (wd := w_7) [] (by kernel_rfl) hwd20 SF_nil fun Q20 hE20 hp20 hS => ?_
      clear hwd20
      refine t_kw hp20 hS 0 (.pointer (some (⟨w.heap.size, 0, none⟩ : Addr)) : Value) rfl (wanted_none rfl) rfl rfl (by kernel_rfl) (fun _ _ => by kernel_rfl) fun hS => ?_
      refine t_kw hp20 hS 1 (.pointer (some (⟨w.heap.size, 0, none⟩ : Addr)) : Value) rfl (wanted_none rfl) rfl rfl (by kernel_rfl) (fun _ _ => by kernel_rfl) fun hS => ?_
      refine t_kw hp20 hS 2 (.pointer (some (⟨w.heap.size, 0, none⟩ : Addr)) : Value) rfl (wanted_none rfl) rfl rfl (by kernel_rfl) (fun _ _ => by kernel_rfl) fun hS => ?_
      refine t_kw hp20 hS 3 (.pointer (some (⟨w.heap.size, 0, none⟩ : Addr)) : Value) rfl (wanted_none rfl) rfl rfl (by kernel_rfl) (fun _ _ => by kernel_rfl) fun hS => ?_
      obtain ⟨t22_8, hx21, h⟩ := h
      refine t_add ⟨4, [14, 17], fun wx => wx.cell? (⟨w.heap.size, 0, none⟩ : Addr) = some (.slice t22_8.a t22_8.n t22_8.c)⟩ ?_
      replace hS := SF_on (x := ⟨4, [14, 17], fun wx => wx.cell? (⟨w.heap.size, 0, none⟩ : Addr) = some (.slice t22_8.a t22_8.n t22_8.c)⟩) hx21 hS
      refine t_v (s := Instr.loadAt 111 (.pointer (some (⟨w.heap.size, 0, none⟩ : Addr)))) hp20 hS 4 (.slice t22_8.a t22_8.n t22_8.c : Value) rfl (wanted_none rfl) rfl rfl (by kernel_rfl) (by kernel_rfl) (fun _ hw => rn_load (by kernel_rfl) (Sw.fact (List.Mem.head _) rfl hw)) fun hS => ?_
      refine t_kw hp20 hS 5 (.slice b0_1.a b0_1.n b0_1.c : Value) rfl (wanted_none rfl) rfl rfl (by kernel_rfl) (fun _ _ => by kernel_rfl) fun hS => ?_
      refine t_kw hp20 hS 6 (.int .i64 i4_3 : Value) rfl (wanted_none rfl) rfl rfl (by kernel_rfl) (fun _ _ => by kernel_rfl) fun hS => ?_
      obtain ⟨hx22a, hx22b, a_9, hx22, h⟩ := h
      refine t_v (s := Instr.indexAt 22 (.slice b0_1.a b0_1.n b0_1.c : Value) (.int .i64 i4_3 : Value)) hp20 hS 7 (.pointer (some (a_9.add (Int.toNat i4_3))) : Value) rfl (wanted_none rfl) rfl rfl (by kernel_rfl) (by kernel_rfl) (fun _ _ => run_ixs1 (el := 5) (by kernel_rfl) (by kernel_rfl) hx22 hx22a hx22b) fun hS => ?_
      obtain ⟨t26_10, hx23, h⟩ := h
      refine t_add ⟨8, [13, 14, 17], fun wx => wx.cell? (a_9.add (Int.toNat i4_3)) = some (.int .u8 t26_10)⟩ ?_
      replace hS := SF_on (x := ⟨8, [13, 14, 17], fun wx => wx.cell? (a_9.add (Int.toNat i4_3)) = some (.int .u8 t26_10)⟩) hx23 hS
      refine t_v (s := Instr.loadAt 5 (.pointer (some (a_9.add (Int.toNat i4_3))))) hp20 hS 8 (.int .u8 t26_10 : Value) rfl (wanted_none rfl) rfl rfl (by kernel_rfl) (by kernel_rfl) (fun _ hw => rn_load (by kernel_rfl) (Sw.fact (List.Mem.head _) rfl hw)) fun hS => ?_
      refine t_kw hp20 hS 9 (.int .i64 k5_5 : Value) rfl (wanted_none rfl) rfl rfl (by kernel_rfl) (fun _ _ => by kernel_rfl) fun hS => ?_
      obtain ⟨hx24, h⟩ := h
      refine t_kw hp20 hS 10 (.int .u8 (ishr .u8 t26_10 k5_5) : Value) rfl (wanted_none rfl) rfl rfl (by kernel_rfl) (fun _ _ => run_shr hx24 rfl rfl) fun hS => ?_
      refine t_kw hp20 hS 11 (.int .u8 (ibits .and .u8 (ishr .u8 t26_10 k5_5) 1) : Value) rfl (wanted_none rfl) rfl rfl (by kernel_rfl) (fun _ _ => by kernel_rfl) fun hS => ?_
      refine t_kw hp20 hS 12 (.bool ((((ibits .and .u8 (ishr .u8 t26_10 k5_5) 1)) == 1)) : Value) rfl (wanted_none rfl) rfl rfl (by kernel_rfl) (fun _ _ => by kernel_rfl) fun hS => ?_
      replace h := h _ rfl
      have hx25 := cell_alloc (ob := (.cells #[.bool ((((ibits .and .u8 (ishr .u8 t26_10 k5_5) 1)) == 1))] 4)) hx21
      refine t_kstep 13 (.slice (some ⟨w_7.heap.size, 0, none⟩) 1 1 : Value) (w_7.alloc (.cells #[.bool ((((ibits .and .u8 (ishr .u8 t26_10 k5_5) 1)) == 1))] 4)) (by kernel_rfl) rfl (wanted_none rfl) rfl rfl (by kernel_rfl) (SF_off (by kernel_rfl) (by kernel_rfl) (SF_on hx25 SF_nil)) fun hS => ?_
      generalize w_7.alloc (.cells #[.bool ((((ibits .and .u8 (ishr .u8 t26_10 k5_5) 1)) == 1))] 4) = w_11 at hx25 hS h ⊢
      obtain ⟨t32_12, w_13, hx26, h⟩ := h
      refine t_w 14 (s := Builtin.append_ #[111, 111] 111 #[.slice t22_8.a t22_8.n t22_8.c, .slice (some ⟨w_7.heap.size, 0, none⟩) 1 1]) (by kernel_rfl) rfl (wanted_none rfl) rfl rfl (by kernel_rfl) hx26 (SF_off (by kernel_rfl) (by kernel_rfl) (SF_off (by kernel_rfl) (by kernel_rfl) SF_nil)) fun hS => ?_
      refine t_kw hp20 hS 15 (.pointer (some (⟨w.heap.size, 0, none⟩ : Addr)) : Value) rfl (wanted_none rfl) rfl rfl (by kernel_rfl) (fun _ _ => by kernel_rfl) fun hS => ?_
      refine t_kw hp20 hS 16 (.pointer (some (⟨w.heap.size, 0, none⟩ : Addr)) : Value) rfl (wanted_none rfl) rfl rfl (by kernel_rfl) (fun _ _ => by kernel_rfl) fun hS => ?_
      obtain ⟨hx27, h⟩ := h
      replace h := h _ rfl
      refine t_u 17 (s := Instr.storeAt 111 (.pointer (some (⟨w.heap.size, 0, none⟩ : Addr))) (.slice t32_12.a t32_12.n t32_12.c : Value)) (by kernel_rfl) rfl (wanted_none rfl) rfl (by kernel_rfl) (rn_store1 (by kernel_rfl) rfl hx27) (SF_off (by kernel_rfl) (by kernel_rfl) (SF_off (by kernel_rfl) (by kernel_rfl) SF_nil)) fun hS => ?_
      generalize w_13.setCell (⟨w.heap.size, 0, none⟩ : Addr) (.slice t32_12.a t32_12.n t32_12.c : Value) = w_14 at hS h ⊢
      refine t_done (by kernel_rfl) (hE20 _ _ ?_)
      refine e_block_n ?_
      refine y_then (hK18 _ _ ?_)
      refine y_region ?_
      refine y_k (.int .i64 k5_5 : Value) w_14 rfl rfl rfl (by kernel_rfl) ?_
      refine y_k (.int .i64 (IntKind.i64.wrap (k5_5 - 1)) : Value) w_14 rfl rfl rfl (by kernel_rfl) ?_
      refine y_k (.int .i64 (IntKind.i64.wrap (k5_5 - 1)) : Value) w_14 rfl rfl rfl (by kernel_rfl) ?_
      refine y_nil ?_
      refine y_then (hN15 (IntKind.i64.wrap (k5_5 - 1)) _ _ h ?_)
      dsimp only
      refine upd_id ?_ rfl
      refine upd_id ?_ rfl
      refine upd_id ?_ rfl
      refine upd_id ?_ rfl
      rfl
    · replace h := h.2 (of_decide_eq_false hb28)
      refine y_exit ?_
      repeat (first | refine e_then_x ?_ | refine e_block_y rfl ?_)
      refine e_block_x ?_
      refine e_block_n ?_
      refine y_then (hK10 _ _ ?_)
      refine y_region ?_
      refine y_k (.int .i64 i4_3 : Value) w_6 rfl rfl rfl (by kernel_rfl) ?_
      refine y_k (.int .i64 (IntKind.i64.wrap (i4_3 + 1)) : Value) w_6 rfl rfl rfl (by kernel_rfl) ?_
      refine y_k (.int .i64 (IntKind.i64.wrap (i4_3 + 1)) : Value) w_6 rfl rfl rfl (by kernel_rfl) ?_
      refine y_nil ?_
      refine y_then (hN7 (IntKind.i64.wrap (i4_3 + 1)) _ _ h ?_)
      dsimp only
      refine upd_id ?_ rfl
      refine upd_id ?_ rfl
      refine upd_id ?_ rfl
      rfl
  · replace h := h.2 (of_decide_eq_false hb30)
    refine y_exit ?_
    repeat (first | refine e_then_x ?_ | refine e_block_y rfl ?_)
    refine e_block_x ?_
    refine y_then (hK3 _ _ ?_)
    refine y_seq fun K29 hK29 => ?_
    refine y_region ?_
    refine y_k (.pointer (some (⟨w.heap.size, 0, none⟩ : Addr)) : Value) w_4 rfl rfl rfl (by kernel_rfl) ?_
    refine y_k (.pointer (some (⟨w.heap.size, 0, none⟩ : Addr)) : Value) w_4 rfl rfl rfl (by kernel_rfl) ?_
    refine y_nil ?_
    refine y_then (hK29 _ _ ?_)
    refine y_ret ?_
    repeat (first | refine e_then_r ?_ | refine e_block_r ?_)
    exact (hQ0 _ _ _ (res1 (v := (.pointer (some (⟨w.heap.size, 0, none⟩ : Addr)) : Value)) rfl rfl rfl) ⟨_, rfl, h⟩).1

def F40_j2 (i7_11 : Int) (next20 : (Int × Int) → World → Prop) (v6_20 : Int) (w_21 : World) : Prop :=
  next20 (v6_20, IntKind.i64.wrap (i7_11 + 1)) w_21
def F40_l1 (r0_1 : Option Addr) (n1_2 : Int) (K : Int → Bool → World → Prop) (next20 : (Int × Int) → World → Prop) : (Int × Int) → World → Prop := fun (v6_10, i7_11) w_12 =>
  ((i7_11 < n1_2 →
  ∃ (a_13 : Addr), r0_1 = some a_13 ∧
  ∃ (t38_14 : Sl), w_12.cell? a_13 = some (.slice t38_14.a t38_14.n t38_14.c) ∧
  ∃ (a_15 : Addr), r0_1 = some a_15 ∧
  ∃ (t42_16 : Int), w_12.cell? (a_15.add 1) = some (.int .i64 t42_16) ∧
  (0 : Int) ≤ (IntKind.i64.wrap (t42_16 + i7_11)) ∧ (IntKind.i64.wrap (t42_16 + i7_11)) < (t38_14.n : Int) ∧ ∃ (a_17 : Addr), t38_14.a = some a_17 ∧
  ∃ (t46_18 : Bool), w_12.cell? (a_17.add (Int.toNat (IntKind.i64.wrap (t42_16 + i7_11)))) = some (.bool t46_18) ∧
  ∀ (w_19 : World), (∃ m, w_19 = w_12.drewN m) →
  ((t46_18 = true →
  F40_j2 i7_11 next20 (IntKind.u64.wrap ((IntKind.u64.wrap (2 * v6_10)) + 1)) w_19) ∧
  (t46_18 = false →
  F40_j2 i7_11 next20 (IntKind.u64.wrap (2 * v6_10)) w_19))) ∧
  (¬ (i7_11 < n1_2) →
  ∃ (a_22 : Addr), r0_1 = some a_22 ∧
  ∃ (t53_23 : Int), w_12.cell? (a_22.add 1) = some (.int .i64 t53_23) ∧
  ∃ (a_24 : Addr), r0_1 = some a_24 ∧
  HasCell w_12 (a_24.add 1) ∧ ∀ (w_25 : World), w_25 = w_12.setCell (a_24.add 1) (.int .i64 (IntKind.i64.wrap (t53_23 + n1_2)) : Value) →
  K v6_10 true w_25))
/-- (*turnkey/turnkeyref03.Reader).Get -/
def F40 (r0_1 : Option Addr) (n1_2 : Int) (K : Int → Bool → World → Prop) (w : World) : Prop :=
  ((n1_2 < 0 →
  ∀ (w_3 : World), (∃ m, w_3 = w.drewN m) →
  K 0 false w_3) ∧
  (¬ (n1_2 < 0) →
  ((n1_2 > 64 →
  ∀ (w_4 : World), (∃ m, w_4 = w.drewN m) →
  K 0 false w_4) ∧
  (¬ (n1_2 > 64) →
  ∃ (a_5 : Addr), r0_1 = some a_5 ∧
  ∃ (t19_6 : Sl), w.cell? a_5 = some (.slice t19_6.a t19_6.n t19_6.c) ∧
  ∃ (a_7 : Addr), r0_1 = some a_7 ∧
  ∃ (t24_8 : Int), w.cell? (a_7.add 1) = some (.int .i64 t24_8) ∧
  ∀ (w_9 : World), (∃ m, w_9 = w.drewN m) →
  ((n1_2 > (IntKind.i64.wrap (((t19_6.n : Int)) - t24_8)) →
  K 0 false w_9) ∧
  (¬ (n1_2 > (IntKind.i64.wrap (((t19_6.n : Int)) - t24_8))) →
  kLoop (F40_l1 r0_1 n1_2 K) (0, 0) w_9))))))
set_option maxHeartbeats 4000000 in
set_option maxRecDepth 20000 in
theorem F40_sound (r0_1 : Option Addr) (n1_2 : Int) (K : Int → Bool → World → Prop) (w : World) (h : F40 r0_1 n1_2 K w) :
    Calls Try.prog 40 #[.pointer r0_1, .int .i64 n1_2] w (fun e w1 => ∃ (r0 : Int), ∃ (r1 : Bool), e = .returned (.tuple #[.int .u64 r0, .bool r1]) ∧ K r0 r1 w1) := by
  unfold F40 at h
  refine y_enter (n := 59) (args := [.pointer r0_1, .int .i64 n1_2]) Try.func40 rfl rfl rfl fun Q0 hQ0 => ?_
  refine y_seq fun K1 hK1 => ?_
  refine y_region ?_
  refine y_k (.int .u64 0 : Value) w rfl rfl rfl (by kernel_rfl) ?_
  refine y_k (.bool false : Value) w rfl rfl rfl (by kernel_rfl) ?_
  refine y_nil ?_
  refine y_then (hK1 _ _ ?_)
  refine y_seq fun K2 hK2 => ?_
  refine y_seq fun K3 hK3 => ?_
  refine q_region (by kernel_rfl) (by kernel_rfl) fun Qq4 hQq4 => ?_
  refine q_k (.int .i64 n1_2 : Value) rfl rfl rfl (fun _ => by kernel_rfl) ?_
  refine q_k (.bool (decide (n1_2 < 0)) : Value) rfl rfl rfl (fun _ => by kernel_rfl) ?_
  refine q_k (.bool (decide (n1_2 < 0)) : Value) rfl rfl rfl (fun _ => by kernel_rfl) ?_
  refine q_fork (decide (n1_2 < 0)) (fun hb5 => ?_) (fun hb5 => ?_)
  · replace h := h.1 (of_decide_eq_true hb5)
    refine q_frame (upd_id (i := 10) (v := .bool true) rfl (congrArg Value.bool hb5)) ?_
    refine q_gno rfl rfl rfl rfl ?_
    refine q_gno rfl rfl rfl rfl ?_
    refine q_k (.bool true : Value) rfl rfl rfl (fun _ => by kernel_rfl) ?_
    refine q_k (.bool true : Value) rfl rfl rfl (fun _ => by kernel_rfl) ?_
    refine q_gno rfl rfl rfl rfl ?_
    refine q_gno rfl rfl rfl rfl ?_
    refine q_gno rfl rfl rfl rfl ?_
    refine q_gno rfl rfl rfl rfl ?_
    refine q_gno rfl rfl rfl rfl ?_
    refine q_gno rfl rfl rfl rfl ?_
    refine q_gno rfl rfl rfl rfl ?_
    refine q_gno rfl rfl rfl rfl ?_
    refine q_gno rfl rfl rfl rfl ?_
    refine q_gno rfl rfl rfl rfl ?_
    refine q_gno rfl rfl rfl rfl ?_
    refine q_gno rfl rfl rfl rfl ?_
    refine q_k (.bool true : Value) rfl rfl rfl (fun _ => by kernel_rfl) ?_
    refine q_nil (hQq4 _ fun m7 => ?_)
    replace h := h _ ⟨m7, rfl⟩
    generalize w.drewN m7 = w_3 at h ⊢
    refine y_then (hK3 _ _ ?_)
    refine y_cond_t rfl rfl ?_
    refine y_seq fun K6 hK6 => ?_
    refine y_region ?_
    refine y_k (.int .u64 0 : Value) w_3 rfl rfl rfl (by kernel_rfl) ?_
    refine y_k (.bool false : Value) w_3 rfl rfl rfl (by kernel_rfl) ?_
    refine y_nil ?_
    refine y_then (hK6 _ _ ?_)
    refine y_ret ?_
    repeat (first | refine e_then_r ?_ | refine e_block_r ?_)
    exact (hQ0 _ _ _ (res2 (v1 := (.int .u64 0 : Value)) (v2 := (.bool false : Value)) rfl rfl rfl rfl) ⟨_, _, rfl, h⟩).1
  · replace h := h.2 (of_decide_eq_false hb5)
    refine q_frame (upd_id (i := 10) (v := .bool false) rfl (congrArg Value.bool hb5)) ?_
    refine q_gyes rfl rfl rfl ?_
    refine q_k (.int .i64 n1_2 : Value) rfl rfl rfl (fun _ => by kernel_rfl) ?_
    refine q_gyes rfl rfl rfl ?_
    refine q_k (.bool (decide (n1_2 > 64)) : Value) rfl rfl rfl (fun _ => by kernel_rfl) ?_
    refine q_k (.bool (decide (n1_2 > 64)) : Value) rfl rfl rfl (fun _ => by kernel_rfl) ?_
    refine q_k (.bool (decide (n1_2 > 64)) : Value) rfl rfl rfl (fun _ => by kernel_rfl) ?_
    refine q_fork (decide (n1_2 > 64)) (fun hb8 => ?_) (fun hb8 => ?_)
    · replace h := h.1 (of_decide_eq_true hb8)
      refine q_frame (upd_id (i := 14) (v := .bool true) rfl (congrArg Value.bool hb8)) ?_
      refine q_gno rfl rfl rfl rfl ?_
      refine q_gno rfl rfl rfl rfl ?_
      refine q_gno rfl rfl rfl rfl ?_
      refine q_gno rfl rfl rfl rfl ?_
      refine q_gno rfl rfl rfl rfl ?_
      refine q_gno rfl rfl rfl rfl ?_
      refine q_gno rfl rfl rfl rfl ?_
      refine q_gno rfl rfl rfl rfl ?_
      refine q_gno rfl rfl rfl rfl ?_
      refine q_gno rfl rfl rfl rfl ?_
      refine q_gno rfl rfl rfl rfl ?_
      refine q_gno rfl rfl rfl rfl ?_
      refine q_k (.bool true : Value) rfl rfl rfl (fun _ => by kernel_rfl) ?_
      refine q_nil (hQq4 _ fun m10 => ?_)
      replace h := h _ ⟨m10, rfl⟩
      generalize w.drewN m10 = w_4 at h ⊢
      refine y_then (hK3 _ _ ?_)
      refine y_cond_t rfl rfl ?_
      refine y_seq fun K9 hK9 => ?_
      refine y_region ?_
      refine y_k (.int .u64 0 : Value) w_4 rfl rfl rfl (by kernel_rfl) ?_
      refine y_k (.bool false : Value) w_4 rfl rfl rfl (by kernel_rfl) ?_
      refine y_nil ?_
      refine y_then (hK9 _ _ ?_)
      refine y_ret ?_
      repeat (first | refine e_then_r ?_ | refine e_block_r ?_)
      exact (hQ0 _ _ _ (res2 (v1 := (.int .u64 0 : Value)) (v2 := (.bool false : Value)) rfl rfl rfl rfl) ⟨_, _, rfl, h⟩).1
    · replace h := h.2 (of_decide_eq_false hb8)
      refine q_frame (upd_id (i := 14) (v := .bool false) rfl (congrArg Value.bool hb8)) ?_
      refine q_gyes rfl rfl rfl ?_
      refine q_k (.int .i64 n1_2 : Value) rfl rfl rfl (fun _ => by kernel_rfl) ?_
      refine q_gyes rfl rfl rfl ?_
      refine q_k (.pointer r0_1 : Value) rfl rfl rfl (fun _ => by kernel_rfl) ?_
      refine q_gyes rfl rfl rfl ?_
      obtain ⟨a_5, hx11, h⟩ := h
      refine q_k (.pointer (some a_5) : Value) rfl rfl rfl (fun _ => run_nilCheck hx11 rfl) ?_
      refine q_gyes rfl rfl rfl ?_
      refine q_k (.pointer (some a_5) : Value) rfl rfl rfl (fun _ => by kernel_rfl) ?_
      refine q_gyes rfl rfl rfl ?_
      obtain ⟨t19_6, hx12, h⟩ := h
      refine q_v (v := (.slice t19_6.a t19_6.n t19_6.c : Value)) (s := Instr.loadAt 111 (.pointer (some a_5))) rfl rfl rfl (by kernel_rfl) (fun _ => rn_load (by kernel_rfl) hx12) ?_
      refine q_gyes rfl rfl rfl ?_
      refine q_k (.int .i64 ((t19_6.n : Int)) : Value) rfl rfl rfl (fun _ => by kernel_rfl) ?_
      refine q_gyes rfl rfl rfl ?_
      refine q_k (.pointer r0_1 : Value) rfl rfl rfl (fun _ => by kernel_rfl) ?_
      refine q_gyes rfl rfl rfl ?_
      obtain ⟨a_7, hx13, h⟩ := h
      refine q_k (.pointer (some a_7) : Value) rfl rfl rfl (fun _ => run_nilCheck hx13 rfl) ?_
      refine q_gyes rfl rfl rfl ?_
      refine q_k (.pointer (some (a_7.add 1)) : Value) rfl rfl rfl (fun _ => by kernel_rfl) ?_
      refine q_gyes rfl rfl rfl ?_
      obtain ⟨t24_8, hx14, h⟩ := h
      refine q_v (v := (.int .i64 t24_8 : Value)) (s := Instr.loadAt 3 (.pointer (some (a_7.add 1)))) rfl rfl rfl (by kernel_rfl) (fun _ => rn_load (by kernel_rfl) hx14) ?_
      refine q_gyes rfl rfl rfl ?_
      refine q_k (.int .i64 (IntKind.i64.wrap (((t19_6.n : Int)) - t24_8)) : Value) rfl rfl rfl (fun _ => by kernel_rfl) ?_
      refine q_gyes rfl rfl rfl ?_
      refine q_k (.bool (decide (n1_2 > (IntKind.i64.wrap (((t19_6.n : Int)) - t24_8)))) : Value) rfl rfl rfl (fun _ => by kernel_rfl) ?_
      refine q_k (.bool (decide (n1_2 > (IntKind.i64.wrap (((t19_6.n : Int)) - t24_8)))) : Value) rfl rfl rfl (fun _ => by kernel_rfl) ?_
      refine q_nil (hQq4 _ fun m45 => ?_)
      replace h := h _ ⟨m45, rfl⟩
      generalize w.drewN m45 = w_9 at h ⊢
      refine y_then (hK3 _ _ ?_)
      refine y_cond (decide (n1_2 > (IntKind.i64.wrap (((t19_6.n : Int)) - t24_8)))) rfl rfl (fun hb44 => ?_) (fun hb44 => ?_)
      · replace h := h.1 (of_decide_eq_true hb44)
        refine y_seq fun K15 hK15 => ?_
        refine y_region ?_
        refine y_k (.int .u64 0 : Value) w_9 rfl rfl rfl (by kernel_rfl) ?_
        refine y_k (.bool false : Value) w_9 rfl rfl rfl (by kernel_rfl) ?_
        refine y_nil ?_
        refine y_then (hK15 _ _ ?_)
        refine y_ret ?_
        repeat (first | refine e_then_r ?_ | refine e_block_r ?_)
        exact (hQ0 _ _ _ (res2 (v1 := (.int .u64 0 : Value)) (v2 := (.bool false : Value)) rfl rfl rfl rfl) ⟨_, _, rfl, h⟩).1
      · replace h := h.2 (of_decide_eq_false hb44)
        refine y_skip ?_
        refine y_then (hK2 _ _ ?_)
        refine y_seq fun K16 hK16 => ?_
        refine y_region ?_
        refine y_k (.int .u64 0 : Value) w_9 rfl rfl rfl (by kernel_rfl) ?_
        refine y_nil ?_
        refine y_then (hK16 _ _ ?_)
        refine y_seq fun K17 hK17 => ?_
        refine y_seq fun K18 hK18 => ?_
        refine y_region ?_
        refine y_k (.int .i64 0 : Value) w_9 rfl rfl rfl (by kernel_rfl) ?_
        refine y_nil ?_
        refine y_then (hK18 _ _ ?_)
        refine y_block ?_
        refine y_loop (S := Int × Int) (fun s j => match s with | (v6_10, i7_11) => upd (upd (upd (upd (j) 0 (.pointer r0_1 : Value)) 1 (.int .i64 n1_2 : Value)) 6 (.int .u64 v6_10 : Value)) 7 (.int .i64 i7_11 : Value)) (0, 0) ?_ h ?_
        · dsimp only
          refine upd_id ?_ rfl
          refine upd_id ?_ rfl
          refine upd_id ?_ rfl
          refine upd_id ?_ rfl
          rfl
        rintro KN21 next20 hN21 ⟨v6_10, i7_11⟩ j w_12 h
        unfold F40_l1 at h
        refine y_seq fun K22 hK22 => ?_
        refine y_seq fun K23 hK23 => ?_
        refine y_region ?_
        refine y_k (.int .i64 i7_11 : Value) w_12 rfl rfl rfl (by kernel_rfl) ?_
        refine y_k (.int .i64 n1_2 : Value) w_12 rfl rfl rfl (by kernel_rfl) ?_
        refine y_k (.bool (decide (i7_11 < n1_2)) : Value) w_12 rfl rfl rfl (by kernel_rfl) ?_
        refine y_nil ?_
        refine y_then (hK23 _ _ ?_)
        refine y_cond (decide (i7_11 < n1_2)) rfl rfl (fun hb43 => ?_) (fun hb43 => ?_)
        · replace h := h.1 (of_decide_eq_true hb43)
          refine y_skip ?_
          refine y_then (hK22 _ _ ?_)
          refine y_seq fun K24 hK24 => ?_
          have hjK24 : ∀ (f : Fr) (v6_20 : Int) (w_21 : World), f 0 = (.pointer r0_1 : Value) → f 1 = (.int .i64 n1_2 : Value) → f 6 = (.int .u64 v6_20 : Value) → f 7 = (.int .i64 i7_11 : Value) → F40_j2 i7_11 next20 v6_20 w_21 → WK K24 59 f w_21 := by
            intro f v6_20 w_21 e0 e1 e6 e7 h
            refine y_atf (upd_id (upd_id (upd_id (upd_id rfl e0) e1) e6) e7) ?_
            clear e0 e1 e6 e7
            unfold F40_j2 at h
            refine hK24 _ _ ?_
            refine y_region ?_
            refine y_k (.int .i64 i7_11 : Value) w_21 rfl rfl rfl (by kernel_rfl) ?_
            refine y_k (.int .i64 (IntKind.i64.wrap (i7_11 + 1)) : Value) w_21 rfl rfl rfl (by kernel_rfl) ?_
            refine y_k (.int .i64 (IntKind.i64.wrap (i7_11 + 1)) : Value) w_21 rfl rfl rfl (by kernel_rfl) ?_
            refine y_nil ?_
            refine y_then (hN21 (v6_20, IntKind.i64.wrap (i7_11 + 1)) _ _ h ?_)
            dsimp only
            refine upd_id ?_ rfl
            refine upd_id ?_ rfl
            refine upd_id ?_ rfl
            refine upd_id ?_ rfl
            rfl
          refine y_block ?_
          refine y_seq fun K26 hK26 => ?_
          refine y_region ?_
          refine y_k (.int .u64 v6_10 : Value) w_12 rfl rfl rfl (by kernel_rfl) ?_
          refine y_k (.int .u64 (IntKind.u64.wrap (2 * v6_10)) : Value) w_12 rfl rfl rfl (by kernel_rfl) ?_
          refine y_k (.int .u64 (IntKind.u64.wrap (2 * v6_10)) : Value) w_12 rfl rfl rfl (by kernel_rfl) ?_
          refine y_nil ?_
          refine y_then (hK26 _ _ ?_)
          refine y_seq fun K27 hK27 => ?_
          refine q_region (by kernel_rfl) (by kernel_rfl) fun Qq28 hQq28 => ?_
          refine q_k (.pointer r0_1 : Value) rfl rfl rfl (fun _ => by kernel_rfl) ?_
          obtain ⟨a_13, hx29, h⟩ := h
          refine q_k (.pointer (some a_13) : Value) rfl rfl rfl (fun _ => run_nilCheck hx29 rfl) ?_
          refine q_k (.pointer (some a_13) : Value) rfl rfl rfl (fun _ => by kernel_rfl) ?_
          obtain ⟨t38_14, hx30, h⟩ := h
          refine q_v (v := (.slice t38_14.a t38_14.n t38_14.c : Value)) (s := Instr.loadAt 111 (.pointer (some a_13))) rfl rfl rfl (by kernel_rfl) (fun _ => rn_load (by kernel_rfl) hx30) ?_
          refine q_k (.pointer r0_1 : Value) rfl rfl rfl (fun _ => by kernel_rfl) ?_
          obtain ⟨a_15, hx31, h⟩ := h
          refine q_k (.pointer (some a_15) : Value) rfl rfl rfl (fun _ => run_nilCheck hx31 rfl) ?_
          refine q_k (.pointer (some (a_15.add 1)) : Value) rfl rfl rfl (fun _ => by kernel_rfl) ?_
          obtain ⟨t42_16, hx32, h⟩ := h
          refine q_v (v := (.int .i64 t42_16 : Value)) (s := Instr.loadAt 3 (.pointer (some (a_15.add 1)))) rfl rfl rfl (by kernel_rfl) (fun _ => rn_load (by kernel_rfl) hx32) ?_
          refine q_k (.int .i64 i7_11 : Value) rfl rfl rfl (fun _ => by kernel_rfl) ?_
          refine q_k (.int .i64 (IntKind.i64.wrap (t42_16 + i7_11)) : Value) rfl rfl rfl (fun _ => by kernel_rfl) ?_
          obtain ⟨hx33a, hx33b, a_17, hx33, h⟩ := h
          refine q_v (v := (.pointer (some (a_17.add (Int.toNat (IntKind.i64.wrap (t42_16 + i7_11))))) : Value)) (s := Instr.indexAt 111 (.slice t38_14.a t38_14.n t38_14.c : Value) (.int .i64 (IntKind.i64.wrap (t42_16 + i7_11)) : Value)) rfl rfl rfl (by kernel_rfl) (fun _ => run_ixs1 (el := 4) (by kernel_rfl) (by kernel_rfl) hx33 hx33a hx33b) ?_
          obtain ⟨t46_18, hx34, h⟩ := h
          refine q_v (v := (.bool t46_18 : Value)) (s := Instr.loadAt 4 (.pointer (some (a_17.add (Int.toNat (IntKind.i64.wrap (t42_16 + i7_11))))))) rfl rfl rfl (by kernel_rfl) (fun _ => rn_load (by kernel_rfl) hx34) ?_
          refine q_nil (hQq28 _ fun m36 => ?_)
          replace h := h _ ⟨m36, rfl⟩
          generalize w_12.drewN m36 = w_19 at h ⊢
          refine y_then (hK27 _ _ ?_)
          refine y_cond (t46_18) rfl rfl (fun hb35 => ?_) (fun hb35 => ?_)
          · replace h := h.1 (hb35)
            refine y_region ?_
            refine y_k (.int .u64 (IntKind.u64.wrap (2 * v6_10)) : Value) w_19 rfl rfl rfl (by kernel_rfl) ?_
            refine y_k (.int .u64 (IntKind.u64.wrap ((IntKind.u64.wrap (2 * v6_10)) + 1)) : Value) w_19 rfl rfl rfl (by kernel_rfl) ?_
            refine y_k (.int .u64 (IntKind.u64.wrap ((IntKind.u64.wrap (2 * v6_10)) + 1)) : Value) w_19 rfl rfl rfl (by kernel_rfl) ?_
            refine y_nil ?_
            refine e_block_n ?_
            exact y_then (hjK24 _ (IntKind.u64.wrap ((IntKind.u64.wrap (2 * v6_10)) + 1)) w_19 rfl rfl rfl rfl h)
          · replace h := h.2 (hb35)
            refine y_skip ?_
            refine e_block_n ?_
            exact y_then (hjK24 _ (IntKind.u64.wrap (2 * v6_10)) w_19 rfl rfl rfl rfl h)
        · replace h := h.2 (of_decide_eq_false hb43)
          refine y_exit ?_
          repeat (first | refine e_then_x ?_ | refine e_block_y rfl ?_)
          refine e_block_x ?_
          refine y_then (hK17 _ _ ?_)
          refine y_seq fun K37 hK37 => ?_
          refine y_region ?_
          refine y_k (.pointer r0_1 : Value) w_12 rfl rfl rfl (by kernel_rfl) ?_
          refine y_k (.pointer r0_1 : Value) w_12 rfl rfl rfl (by kernel_rfl) ?_
          obtain ⟨a_22, hx38, h⟩ := h
          refine y_k (.pointer (some a_22) : Value) w_12 rfl rfl rfl (run_nilCheck hx38 rfl) ?_
          refine y_k (.pointer (some (a_22.add 1)) : Value) w_12 rfl rfl rfl (by kernel_rfl) ?_
          obtain ⟨t53_23, hx39, h⟩ := h
          refine y_v (s := Instr.loadAt 3 (.pointer (some (a_22.add 1)))) rfl rfl rfl (by kernel_rfl) (rn_load (by kernel_rfl) hx39) ?_
          refine y_k (.int .i64 n1_2 : Value) w_12 rfl rfl rfl (by kernel_rfl) ?_
          refine y_k (.int .i64 (IntKind.i64.wrap (t53_23 + n1_2)) : Value) w_12 rfl rfl rfl (by kernel_rfl) ?_
          obtain ⟨a_24, hx40, h⟩ := h
          refine y_k (.pointer (some a_24) : Value) w_12 rfl rfl rfl (run_nilCheck hx40 rfl) ?_
          refine y_k (.pointer (some (a_24.add 1)) : Value) w_12 rfl rfl rfl (by kernel_rfl) ?_
          obtain ⟨hx41, h⟩ := h
          replace h := h _ rfl
          refine y_u (s := Instr.storeAt 3 (.pointer (some (a_24.add 1))) (.int .i64 (IntKind.i64.wrap (t53_23 + n1_2)) : Value)) rfl rfl (by kernel_rfl) (rn_store1 (by kernel_rfl) rfl hx41) ?_
          generalize w_12.setCell (a_24.add 1) (.int .i64 (IntKind.i64.wrap (t53_23 + n1_2)) : Value) = w_25 at h ⊢
          refine y_nil ?_
          refine y_then (hK37 _ _ ?_)
          refine y_seq fun K42 hK42 => ?_
          refine y_region ?_
          refine y_k (.int .u64 v6_10 : Value) w_25 rfl rfl rfl (by kernel_rfl) ?_
          refine y_k (.int .u64 v6_10 : Value) w_25 rfl rfl rfl (by kernel_rfl) ?_
          refine y_k (.bool true : Value) w_25 rfl rfl rfl (by kernel_rfl) ?_
          refine y_nil ?_
          refine y_then (hK42 _ _ ?_)
          refine y_ret ?_
          repeat (first | refine e_then_r ?_ | refine e_block_r ?_)
          exact (hQ0 _ _ _ (res2 (v1 := (.int .u64 v6_10 : Value)) (v2 := (.bool true : Value)) rfl rfl rfl rfl) ⟨_, _, rfl, h⟩).1

/-- (*turnkey/turnkeyref03.Reader).Left -/
def F42 (r0_1 : Option Addr) (K : Int → World → Prop) (w : World) : Prop :=
  ∃ (a_2 : Addr), r0_1 = some a_2 ∧
  ∃ (t6_3 : Sl), w.cell? a_2 = some (.slice t6_3.a t6_3.n t6_3.c) ∧
  ∃ (a_4 : Addr), r0_1 = some a_4 ∧
  ∃ (t11_5 : Int), w.cell? (a_4.add 1) = some (.int .i64 t11_5) ∧
  ∀ (w_6 : World), (∃ m, w_6 = w.drewN m) →
  K (IntKind.i64.wrap (((t6_3.n : Int)) - t11_5)) w_6
set_option maxHeartbeats 4000000 in
set_option maxRecDepth 20000 in
theorem F42_sound (r0_1 : Option Addr) (K : Int → World → Prop) (w : World) (h : F42 r0_1 K w) :
    Calls Try.prog 42 #[.pointer r0_1] w (fun e w1 => ∃ (r0 : Int), e = .returned (.int .i64 r0 : Value) ∧ K r0 w1) := by
  unfold F42 at h
  refine y_enter (n := 13) (args := [.pointer r0_1]) Try.func42 rfl rfl rfl fun Q0 hQ0 => ?_
  refine y_seq fun K1 hK1 => ?_
  refine y_region ?_
  refine y_k (.int .i64 0 : Value) w rfl rfl rfl (by kernel_rfl) ?_
  refine y_nil ?_
  refine y_then (hK1 _ _ ?_)
  refine y_seq fun K2 hK2 => ?_
  refine q_region (by kernel_rfl) (by kernel_rfl) fun Qq3 hQq3 => ?_
  refine q_k (.pointer r0_1 : Value) rfl rfl rfl (fun _ => by kernel_rfl) ?_
  obtain ⟨a_2, hx4, h⟩ := h
  refine q_k (.pointer (some a_2) : Value) rfl rfl rfl (fun _ => run_nilCheck hx4 rfl) ?_
  refine q_k (.pointer (some a_2) : Value) rfl rfl rfl (fun _ => by kernel_rfl) ?_
  obtain ⟨t6_3, hx5, h⟩ := h
  refine q_v (v := (.slice t6_3.a t6_3.n t6_3.c : Value)) (s := Instr.loadAt 111 (.pointer (some a_2))) rfl rfl rfl (by kernel_rfl) (fun _ => rn_load (by kernel_rfl) hx5) ?_
  refine q_k (.int .i64 ((t6_3.n : Int)) : Value) rfl rfl rfl (fun _ => by kernel_rfl) ?_
  refine q_k (.pointer r0_1 : Value) rfl rfl rfl (fun _ => by kernel_rfl) ?_
  obtain ⟨a_4, hx6, h⟩ := h
  refine q_k (.pointer (some a_4) : Value) rfl rfl rfl (fun _ => run_nilCheck hx6 rfl) ?_
  refine q_k (.pointer (some (a_4.add 1)) : Value) rfl rfl rfl (fun _ => by kernel_rfl) ?_
  obtain ⟨t11_5, hx7, h⟩ := h
  refine q_v (v := (.int .i64 t11_5 : Value)) (s := Instr.loadAt 3 (.pointer (some (a_4.add 1)))) rfl rfl rfl (by kernel_rfl) (fun _ => rn_load (by kernel_rfl) hx7) ?_
  refine q_k (.int .i64 (IntKind.i64.wrap (((t6_3.n : Int)) - t11_5)) : Value) rfl rfl rfl (fun _ => by kernel_rfl) ?_
  refine q_k (.int .i64 (IntKind.i64.wrap (((t6_3.n : Int)) - t11_5)) : Value) rfl rfl rfl (fun _ => by kernel_rfl) ?_
  refine q_nil (hQq3 _ fun m8 => ?_)
  replace h := h _ ⟨m8, rfl⟩
  generalize w.drewN m8 = w_6 at h ⊢
  refine y_then (hK2 _ _ ?_)
  refine y_ret ?_
  repeat (first | refine e_then_r ?_ | refine e_block_r ?_)
  exact (hQ0 _ _ _ (res1 (v := (.int .i64 (IntKind.i64.wrap (((t6_3.n : Int)) - t11_5)) : Value)) rfl rfl rfl) ⟨_, rfl, h⟩).1

def F58_l1 (w0_1 : Option Addr) (v1_2 : Int) (K : World → Prop) (next3 : (Int) → World → Prop) : (Int) → World → Prop := fun (i6_6) w_7 =>
  ((i6_6 ≥ 0 →
  ∀ (w_8 : World), w_8 = w_7.drew →
  ∃ (a_9 : Addr), w0_1 = some a_9 ∧
  ∃ (t18_10 : Sl), w_8.cell? a_9 = some (.slice t18_10.a t18_10.n t18_10.c) ∧
  (0 : Int) ≤ i6_6 ∧
  ∀ (w_11 : World), w_11 = w_8.alloc (.cells #[.bool ((((ibits .and .u64 (ishr .u64 v1_2 i6_6) 1)) == 1))] 4) → 
  ∃ (t25_12 : Sl), ∃ (w_13 : World), (Builtin.append_ #[111, 111] 111 #[.slice t18_10.a t18_10.n t18_10.c, .slice (some ⟨w_8.heap.size, 0, none⟩) 1 1]).run Try.prog w_11 = .ok (.slice t25_12.a t25_12.n t25_12.c : Value) w_13 ∧ 
  ∃ (a_14 : Addr), w0_1 = some a_14 ∧
  HasCell w_13 a_14 ∧ ∀ (w_15 : World), w_15 = w_13.setCell a_14 (.slice t25_12.a t25_12.n t25_12.c : Value) → 
  next3 (IntKind.i64.wrap (i6_6 - 1)) w_15) ∧
  (¬ (i6_6 ≥ 0) →
  K w_7))
/-- (*turnkey/turnkeyref03.Writer).Put -/
def F58 (w0_1 : Option Addr) (v1_2 : Int) (n2_3 : Int) (K : World → Prop) (w : World) : Prop :=
  Calls Try.prog 72 #[.int .i64 n2_3] w fun e w_5 => ∃ (t8_4 : Int), e = .returned (.int .i64 t8_4 : Value) ∧
  kLoop (F58_l1 w0_1 v1_2 K) (IntKind.i64.wrap (t8_4 - 1)) w_5
set_option maxHeartbeats 4000000 in
set_option maxRecDepth 20000 in
theorem F58_sound (w0_1 : Option Addr) (v1_2 : Int) (n2_3 : Int) (K : World → Prop) (w : World) (h : F58 w0_1 v1_2 n2_3 K w) :
    Calls Try.prog 58 #[.pointer w0_1, .int .u64 v1_2, .int .i64 n2_3] w (fun e w1 => e = .returned (.tuple #[]) ∧ K  w1) := by
  unfold F58 at h
  refine y_enter (n := 28) (args := [.pointer w0_1, .int .u64 v1_2, .int .i64 n2_3]) Try.func58 rfl rfl rfl fun Q0 hQ0 => ?_
  refine y_seq fun K1 hK1 => ?_
  refine y_region ?_
  refine y_k (.int .i64 n2_3 : Value) w rfl rfl rfl (by kernel_rfl) ?_
  refine y_call rfl rfl rfl (by kernel_rfl) (h.mono ?_)
  rintro _ w_5 ⟨t8_4, rfl, h⟩
  refine ⟨_, rfl, ?_⟩
  refine y_k (.int .i64 (IntKind.i64.wrap (t8_4 - 1)) : Value) w_5 rfl rfl rfl (by kernel_rfl) ?_
  refine y_k (.int .i64 (IntKind.i64.wrap (t8_4 - 1)) : Value) w_5 rfl rfl rfl (by kernel_rfl) ?_
  refine y_nil ?_
  refine y_then (hK1 _ _ ?_)
  refine y_block ?_
  refine y_loop (S := Int) (fun s j => match s with | (i6_6) => upd (upd (upd (j) 0 (.pointer w0_1 : Value)) 1 (.int .u64 v1_2 : Value)) 6 (.int .i64 i6_6 : Value)) (IntKind.i64.wrap (t8_4 - 1)) ?_ h ?_
  · dsimp only
    refine upd_id ?_ rfl
    refine upd_id ?_ rfl
    refine upd_id ?_ rfl
    rfl
  rintro KN4 next3 hN4 i6_6 j w_7 h
  unfold F58_l1 at h
  refine y_seq fun K5 hK5 => ?_
  refine y_seq fun K6 hK6 => ?_
  refine y_region ?_
  refine y_k (.int .i64 i6_6 : Value) w_7 rfl rfl rfl (by kernel_rfl) ?_
  refine y_k (.bool (decide (i6_6 ≥ 0)) : Value) w_7 rfl rfl rfl (by kernel_rfl) ?_
  refine y_nil ?_
  refine y_then (hK6 _ _ ?_)
  refine y_cond (decide (i6_6 ≥ 0)) rfl rfl (fun hb17 => ?_) (fun hb17 => ?_)
  · replace h := h.1 (of_decide_eq_true hb17)
    refine y_skip ?_
    refine y_then (hK5 _ _ ?_)
    refine y_seq fun K7 hK7 => ?_
    refine y_block ?_
    obtain ⟨w_8, hwd9⟩ : ∃ wd : World, wd = w_7.drew := ⟨_, rfl⟩
    replace h := h _ hwd9
    refine t_region (wd := w_8) [] (by kernel_rfl) hwd9 SF_nil fun Q9 hE9 hp9 hS => ?_
    clear hwd9
    refine t_kw hp9 hS 0 (.pointer w0_1 : Value) rfl (wanted_none rfl) rfl rfl (by kernel_rfl) (fun _ _ => by kernel_rfl) fun hS => ?_
    refine t_kw hp9 hS 1 (.pointer w0_1 : Value) rfl (wanted_none rfl) rfl rfl (by kernel_rfl) (fun _ _ => by kernel_rfl) fun hS => ?_
    obtain ⟨a_9, hx10, h⟩ := h
    refine t_kw hp9 hS 2 (.pointer (some a_9) : Value) rfl (wanted_none rfl) rfl rfl (by kernel_rfl) (fun _ _ => run_nilCheck hx10 rfl) fun hS => ?_
    refine t_kw hp9 hS 3 (.pointer (some a_9) : Value) rfl (wanted_none rfl) rfl rfl (by kernel_rfl) (fun _ _ => by kernel_rfl) fun hS => ?_
    obtain ⟨t18_10, hx11, h⟩ := h
    refine t_add ⟨4, [11, 14], fun wx => wx.cell? a_9 = some (.slice t18_10.a t18_10.n t18_10.c)⟩ ?_
    replace hS := SF_on (x := ⟨4, [11, 14], fun wx => wx.cell? a_9 = some (.slice t18_10.a t18_10.n t18_10.c)⟩) hx11 hS
    refine t_v (s := Instr.loadAt 111 (.pointer (some a_9))) hp9 hS 4 (.slice t18_10.a t18_10.n t18_10.c : Value) rfl (wanted_none rfl) rfl rfl (by kernel_rfl) (by kernel_rfl) (fun _ hw => rn_load (by kernel_rfl) (Sw.fact (List.Mem.head _) rfl hw)) fun hS => ?_
    refine t_kw hp9 hS 5 (.int .u64 v1_2 : Value) rfl (wanted_none rfl) rfl rfl (by kernel_rfl) (fun _ _ => by kernel_rfl) fun hS => ?_
    refine t_kw hp9 hS 6 (.int .i64 i6_6 : Value) rfl (wanted_none rfl) rfl rfl (by kernel_rfl) (fun _ _ => by kernel_rfl) fun hS => ?_
    obtain ⟨hx12, h⟩ := h
    refine t_kw hp9 hS 7 (.int .u64 (ishr .u64 v1_2 i6_6) : Value) rfl (wanted_none rfl) rfl rfl (by kernel_rfl) (fun _ _ => run_shr hx12 rfl rfl) fun hS => ?_
    refine t_kw hp9 hS 8 (.int .u64 (ibits .and .u64 (ishr .u64 v1_2 i6_6) 1) : Value) rfl (wanted_none rfl) rfl rfl (by kernel_rfl) (fun _ _ => by kernel_rfl) fun hS => ?_
    refine t_kw hp9 hS 9 (.bool ((((ibits .and .u64 (ishr .u64 v1_2 i6_6) 1)) == 1)) : Value) rfl (wanted_none rfl) rfl rfl (by kernel_rfl) (fun _ _ => by kernel_rfl) fun hS => ?_
    replace h := h _ rfl
    have hx13 := cell_alloc (ob := (.cells #[.bool ((((ibits .and .u64 (ishr .u64 v1_2 i6_6) 1)) == 1))] 4)) hx11
    refine t_kstep 10 (.slice (some ⟨w_8.heap.size, 0, none⟩) 1 1 : Value) (w_8.alloc (.cells #[.bool ((((ibits .and .u64 (ishr .u64 v1_2 i6_6) 1)) == 1))] 4)) (by kernel_rfl) rfl (wanted_none rfl) rfl rfl (by kernel_rfl) (SF_on hx13 SF_nil) fun hS => ?_
    generalize w_8.alloc (.cells #[.bool ((((ibits .and .u64 (ishr .u64 v1_2 i6_6) 1)) == 1))] 4) = w_11 at hx13 hS h ⊢
    obtain ⟨t25_12, w_13, hx14, h⟩ := h
    refine t_w 11 (s := Builtin.append_ #[111, 111] 111 #[.slice t18_10.a t18_10.n t18_10.c, .slice (some ⟨w_8.heap.size, 0, none⟩) 1 1]) (by kernel_rfl) rfl (wanted_none rfl) rfl rfl (by kernel_rfl) hx14 (SF_off (by kernel_rfl) (by kernel_rfl) SF_nil) fun hS => ?_
    obtain ⟨a_14, hx15, h⟩ := h
    refine t_kw hp9 hS 12 (.pointer (some a_14) : Value) rfl (wanted_none rfl) rfl rfl (by kernel_rfl) (fun _ _ => run_nilCheck hx15 rfl) fun hS => ?_
    refine t_kw hp9 hS 13 (.pointer (some a_14) : Value) rfl (wanted_none rfl) rfl rfl (by kernel_rfl) (fun _ _ => by kernel_rfl) fun hS => ?_
    obtain ⟨hx16, h⟩ := h
    replace h := h _ rfl
    refine t_u 14 (s := Instr.storeAt 111 (.pointer (some a_14)) (.slice t25_12.a t25_12.n t25_12.c : Value)) (by kernel_rfl) rfl (wanted_none rfl) rfl (by kernel_rfl) (rn_store1 (by kernel_rfl) rfl hx16) (SF_off (by kernel_rfl) (by kernel_rfl) SF_nil) fun hS => ?_
    generalize w_13.setCell a_14 (.slice t25_12.a t25_12.n t25_12.c : Value) = w_15 at hS h ⊢
    refine t_done (by kernel_rfl) (hE9 _ _ ?_)
    refine e_block_n ?_
    refine y_then (hK7 _ _ ?_)
    refine y_region ?_
    refine y_k (.int .i64 i6_6 : Value) w_15 rfl rfl rfl (by kernel_rfl) ?_
    refine y_k (.int .i64 (IntKind.i64.wrap (i6_6 - 1)) : Value) w_15 rfl rfl rfl (by kernel_rfl) ?_
    refine y_k (.int .i64 (IntKind.i64.wrap (i6_6 - 1)) : Value) w_15 rfl rfl rfl (by kernel_rfl) ?_
    refine y_nil ?_
    refine y_then (hN4 (IntKind.i64.wrap (i6_6 - 1)) _ _ h ?_)
    dsimp only
    refine upd_id ?_ rfl
    refine upd_id ?_ rfl
    refine upd_id ?_ rfl
    rfl
  · replace h := h.2 (of_decide_eq_false hb17)
    refine y_exit ?_
    repeat (first | refine e_then_x ?_ | refine e_block_y rfl ?_)
    refine e_block_x ?_
    exact (hQ0 _ _ _ (res0 rfl) ⟨rfl, h⟩).2

/-- (*turnkey/turnkeyref03.Writer).Cut -/
def F59 (w0_1 : Option Addr) (n1_2 : Int) (K : World → Prop) (w : World) : Prop :=
  ∀ (w_3 : World), w_3 = w.drew →
  ∃ (a_4 : Addr), w0_1 = some a_4 ∧
  ∃ (t8_5 : Sl), w_3.cell? a_4 = some (.slice t8_5.a t8_5.n t8_5.c) ∧
  ∃ (a_6 : Addr), w0_1 = some a_6 ∧
  ∃ (t14_7 : Sl), w_3.cell? a_6 = some (.slice t14_7.a t14_7.n t14_7.c) ∧
  ∃ (t17_8 : Sl), (Instr.sliceAt 111 (.slice t8_5.a t8_5.n t8_5.c : Value) none (some (.int .i64 ((if ((t14_7.n : Int)) < ((if n1_2 > 0 then n1_2 else 0)) then ((t14_7.n : Int)) else ((if n1_2 > 0 then n1_2 else 0)))) : Value)) none).run Try.prog w_3 = .ok (.slice t17_8.a t17_8.n t17_8.c : Value) w_3 ∧
  ∃ (a_9 : Addr), w0_1 = some a_9 ∧
  HasCell w_3 a_9 ∧ ∀ (w_10 : World), w_10 = w_3.setCell a_9 (.slice t17_8.a t17_8.n t17_8.c : Value) → 
  K w_10
set_option maxHeartbeats 4000000 in
set_option maxRecDepth 20000 in
theorem F59_sound (w0_1 : Option Addr) (n1_2 : Int) (K : World → Prop) (w : World) (h : F59 w0_1 n1_2 K w) :
    Calls Try.prog 59 #[.pointer w0_1, .int .i64 n1_2] w (fun e w1 => e = .returned (.tuple #[]) ∧ K  w1) := by
  unfold F59 at h
  refine y_enter (n := 20) (args := [.pointer w0_1, .int .i64 n1_2]) Try.func59 rfl rfl rfl fun Q0 hQ0 => ?_
  obtain ⟨w_3, hwd1⟩ : ∃ wd : World, wd = w.drew := ⟨_, rfl⟩
  replace h := h _ hwd1
  refine t_region (wd := w_3) [] (by kernel_rfl) hwd1 SF_nil fun Q1 hE1 hp1 hS => ?_
  clear hwd1
  refine t_kw hp1 hS 0 (.pointer w0_1 : Value) rfl (wanted_none rfl) rfl rfl (by kernel_rfl) (fun _ _ => by kernel_rfl) fun hS => ?_
  refine t_kw hp1 hS 1 (.pointer w0_1 : Value) rfl (wanted_none rfl) rfl rfl (by kernel_rfl) (fun _ _ => by kernel_rfl) fun hS => ?_
  obtain ⟨a_4, hx2, h⟩ := h
  refine t_kw hp1 hS 2 (.pointer (some a_4) : Value) rfl (wanted_none rfl) rfl rfl (by kernel_rfl) (fun _ _ => run_nilCheck hx2 rfl) fun hS => ?_
  refine t_kw hp1 hS 3 (.pointer (some a_4) : Value) rfl (wanted_none rfl) rfl rfl (by kernel_rfl) (fun _ _ => by kernel_rfl) fun hS => ?_
  obtain ⟨t8_5, hx3, h⟩ := h
  refine t_add ⟨4, [16], fun wx => wx.cell? a_4 = some (.slice t8_5.a t8_5.n t8_5.c)⟩ ?_
  replace hS := SF_on (x := ⟨4, [16], fun wx => wx.cell? a_4 = some (.slice t8_5.a t8_5.n t8_5.c)⟩) hx3 hS
  refine t_v (s := Instr.loadAt 111 (.pointer (some a_4))) hp1 hS 4 (.slice t8_5.a t8_5.n t8_5.c : Value) rfl (wanted_none rfl) rfl rfl (by kernel_rfl) (by kernel_rfl) (fun _ hw => rn_load (by kernel_rfl) (Sw.fact (List.Mem.head _) rfl hw)) fun hS => ?_
  refine t_kw hp1 hS 5 (.int .i64 n1_2 : Value) rfl (wanted_none rfl) rfl rfl (by kernel_rfl) (fun _ _ => by kernel_rfl) fun hS => ?_
  refine t_v (s := Builtin.max_ #[3, 3] 3 #[.int .i64 0, .int .i64 n1_2]) hp1 hS 6 (.int .i64 ((if n1_2 > 0 then n1_2 else 0)) : Value) rfl (wanted_none rfl) rfl rfl (by kernel_rfl) (by kernel_rfl) (fun _ _ => run_max2) fun hS => ?_
  refine t_kw hp1 hS 7 (.pointer w0_1 : Value) rfl (wanted_none rfl) rfl rfl (by kernel_rfl) (fun _ _ => by kernel_rfl) fun hS => ?_
  obtain ⟨a_6, hx4, h⟩ := h
  refine t_kw hp1 hS 8 (.pointer (some a_6) : Value) rfl (wanted_none rfl) rfl rfl (by kernel_rfl) (fun _ _ => run_nilCheck hx4 rfl) fun hS => ?_
  refine t_kw hp1 hS 9 (.pointer (some a_6) : Value) rfl (wanted_none rfl) rfl rfl (by kernel_rfl) (fun _ _ => by kernel_rfl) fun hS => ?_
  obtain ⟨t14_7, hx5, h⟩ := h
  refine t_add ⟨10, [16], fun wx => wx.cell? a_6 = some (.slice t14_7.a t14_7.n t14_7.c)⟩ ?_
  replace hS := SF_on (x := ⟨10, [16], fun wx => wx.cell? a_6 = some (.slice t14_7.a t14_7.n t14_7.c)⟩) hx5 hS
  refine t_v (s := Instr.loadAt 111 (.pointer (some a_6))) hp1 hS 10 (.slice t14_7.a t14_7.n t14_7.c : Value) rfl (wanted_none rfl) rfl rfl (by kernel_rfl) (by kernel_rfl) (fun _ hw => rn_load (by kernel_rfl) (Sw.fact (List.Mem.head _) rfl hw)) fun hS => ?_
  refine t_kw hp1 hS 11 (.int .i64 ((t14_7.n : Int)) : Value) rfl (wanted_none rfl) rfl rfl (by kernel_rfl) (fun _ _ => by kernel_rfl) fun hS => ?_
  refine t_v (s := Builtin.min_ #[3, 3] 3 #[.int .i64 ((if n1_2 > 0 then n1_2 else 0)), .int .i64 ((t14_7.n : Int))]) hp1 hS 12 (.int .i64 ((if ((t14_7.n : Int)) < ((if n1_2 > 0 then n1_2 else 0)) then ((t14_7.n : Int)) else ((if n1_2 > 0 then n1_2 else 0)))) : Value) rfl (wanted_none rfl) rfl rfl (by kernel_rfl) (by kernel_rfl) (fun _ _ => run_min2) fun hS => ?_
  obtain ⟨t17_8, hx6, h⟩ := h
  refine t_add ⟨13, [16], fun wx => (Instr.sliceAt 111 (.slice t8_5.a t8_5.n t8_5.c : Value) none (some (.int .i64 ((if ((t14_7.n : Int)) < ((if n1_2 > 0 then n1_2 else 0)) then ((t14_7.n : Int)) else ((if n1_2 > 0 then n1_2 else 0)))) : Value)) none).run Try.prog wx = .ok (.slice t17_8.a t17_8.n t17_8.c : Value) wx⟩ ?_
  replace hS := SF_on (x := ⟨13, [16], fun wx => (Instr.sliceAt 111 (.slice t8_5.a t8_5.n t8_5.c : Value) none (some (.int .i64 ((if ((t14_7.n : Int)) < ((if n1_2 > 0 then n1_2 else 0)) then ((t14_7.n : Int)) else ((if n1_2 > 0 then n1_2 else 0)))) : Value)) none).run Try.prog wx = .ok (.slice t17_8.a t17_8.n t17_8.c : Value) wx⟩) hx6 hS
  refine t_v (s := Instr.sliceAt 111 (.slice t8_5.a t8_5.n t8_5.c : Value) none (some (.int .i64 ((if ((t14_7.n : Int)) < ((if n1_2 > 0 then n1_2 else 0)) then ((t14_7.n : Int)) else ((if n1_2 > 0 then n1_2 else 0)))) : Value)) none) hp1 hS 13 (.slice t17_8.a t17_8.n t17_8.c : Value) rfl (wanted_none rfl) rfl rfl (by kernel_rfl) (by kernel_rfl) (fun _ hw => (Sw.fact (List.Mem.head _) rfl hw)) fun hS => ?_
  obtain ⟨a_9, hx7, h⟩ := h
  refine t_kw hp1 hS 14 (.pointer (some a_9) : Value) rfl (wanted_none rfl) rfl rfl (by kernel_rfl) (fun _ _ => run_nilCheck hx7 rfl) fun hS => ?_
  refine t_kw hp1 hS 15 (.pointer (some a_9) : Value) rfl (wanted_none rfl) rfl rfl (by kernel_rfl) (fun _ _ => by kernel_rfl) fun hS => ?_
  obtain ⟨hx8, h⟩ := h
  replace h := h _ rfl
  refine t_u 16 (s := Instr.storeAt 111 (.pointer (some a_9)) (.slice t17_8.a t17_8.n t17_8.c : Value)) (by kernel_rfl) rfl (wanted_none rfl) rfl (by kernel_rfl) (rn_store1 (by kernel_rfl) rfl hx8) (SF_off (by kernel_rfl) (by kernel_rfl) (SF_off (by kernel_rfl) (by kernel_rfl) (SF_off (by kernel_rfl) (by kernel_rfl) SF_nil))) fun hS => ?_
  generalize w_3.setCell a_9 (.slice t17_8.a t17_8.n t17_8.c : Value) = w_10 at hS h ⊢
  refine t_done (by kernel_rfl) (hE1 _ _ ?_)
  exact (hQ0 _ _ _ (res0 rfl) ⟨rfl, h⟩).2

/-- (*turnkey/turnkeyref03.Writer).Len -/
def F60 (w0_1 : Option Addr) (K : Int → World → Prop) (w : World) : Prop :=
  ∃ (a_2 : Addr), w0_1 = some a_2 ∧
  ∃ (t6_3 : Sl), w.cell? a_2 = some (.slice t6_3.a t6_3.n t6_3.c) ∧
  K ((t6_3.n : Int)) w
set_option maxHeartbeats 4000000 in
set_option maxRecDepth 20000 in
theorem F60_sound (w0_1 : Option Addr) (K : Int → World → Prop) (w : World) (h : F60 w0_1 K w) :
    Calls Try.prog 60 #[.pointer w0_1] w (fun e w1 => ∃ (r0 : Int), e = .returned (.int .i64 r0 : Value) ∧ K r0 w1) := by
  unfold F60 at h
  refine y_enter (n := 8) (args := [.pointer w0_1]) Try.func60 rfl rfl rfl fun Q0 hQ0 => ?_
  refine y_seq fun K1 hK1 => ?_
  refine y_region ?_
  refine y_k (.int .i64 0 : Value) w rfl rfl rfl (by kernel_rfl) ?_
  refine y_nil ?_
  refine y_then (hK1 _ _ ?_)
  refine y_seq fun K2 hK2 => ?_
  refine y_region ?_
  refine y_k (.pointer w0_1 : Value) w rfl rfl rfl (by kernel_rfl) ?_
  obtain ⟨a_2, hx3, h⟩ := h
  refine y_k (.pointer (some a_2) : Value) w rfl rfl rfl (run_nilCheck hx3 rfl) ?_
  refine y_k (.pointer (some a_2) : Value) w rfl rfl rfl (by kernel_rfl) ?_
  obtain ⟨t6_3, hx4, h⟩ := h
  refine y_v (s := Instr.loadAt 111 (.pointer (some a_2))) rfl rfl rfl (by kernel_rfl) (rn_load (by kernel_rfl) hx4) ?_
  refine y_k (.int .i64 ((t6_3.n : Int)) : Value) w rfl rfl rfl (by kernel_rfl) ?_
  refine y_k (.int .i64 ((t6_3.n : Int)) : Value) w rfl rfl rfl (by kernel_rfl) ?_
  refine y_nil ?_
  refine y_then (hK2 _ _ ?_)
  refine y_ret ?_
  repeat (first | refine e_then_r ?_ | refine e_block_r ?_)
  exact (hQ0 _ _ _ (res1 (v := (.int .i64 ((t6_3.n : Int)) : Value)) rfl rfl rfl) ⟨_, rfl, h⟩).1

def F61_j3 (k6_8 : Int) (next18 : (Int × Int) → World → Prop) (c5_16 : Int) (w_17 : World) : Prop :=
  next18 (c5_16, IntKind.i64.wrap (k6_8 + 1)) w_17
def F61_l2 (w0_1 : Option Addr) (out3_2 : Sl) (i4_3 : Int) (next6 : (Sl × Int) → World → Prop) (next18 : (Int × Int) → World → Prop) : (Int × Int) → World → Prop := fun (c5_7, k6_8) w_9 =>
  ((k6_8 < 8 →
  ∃ (a_10 : Addr), w0_1 = some a_10 ∧
  ∃ (t28_11 : Sl), w_9.cell? a_10 = some (.slice t28_11.a t28_11.n t28_11.c) ∧
  (((IntKind.i64.wrap (i4_3 + k6_8)) < ((t28_11.n : Int)) →
  ∃ (a_12 : Addr), w0_1 = some a_12 ∧
  ∃ (t35_13 : Sl), w_9.cell? a_12 = some (.slice t35_13.a t35_13.n t35_13.c) ∧
  (0 : Int) ≤ (IntKind.i64.wrap (i4_3 + k6_8)) ∧ (IntKind.i64.wrap (i4_3 + k6_8)) < (t35_13.n : Int) ∧ ∃ (a_14 : Addr), t35_13.a = some a_14 ∧
  ∃ (t40_15 : Bool), w_9.cell? (a_14.add (Int.toNat (IntKind.i64.wrap (i4_3 + k6_8)))) = some (.bool t40_15) ∧
  ((t40_15 = true →
  F61_j3 k6_8 next18 (IntKind.i64.wrap ((IntKind.i64.wrap (2 * c5_7)) + 1)) w_9) ∧
  (t40_15 = false →
  F61_j3 k6_8 next18 (IntKind.i64.wrap (2 * c5_7)) w_9))) ∧
  (¬ ((IntKind.i64.wrap (i4_3 + k6_8)) < ((t28_11.n : Int))) →
  F61_j3 k6_8 next18 (IntKind.i64.wrap (2 * c5_7)) w_9))) ∧
  (¬ (k6_8 < 8) →
  ∀ (w_18 : World), w_18 = w_9.alloc (.cells #[.int .u8 (IntKind.u8.wrap c5_7)] 5) →
  ∃ (t48_19 : Sl), ∃ (w_20 : World), (Builtin.append_ #[22, 22] 22 #[.slice out3_2.a out3_2.n out3_2.c, .slice (some ⟨w_9.heap.size, 0, none⟩) 1 1]).run Try.prog w_18 = .ok (.slice t48_19.a t48_19.n t48_19.c : Value) w_20 ∧
  next6 (t48_19, IntKind.i64.wrap (i4_3 + 8)) w_20))
def F61_l1 (w0_1 : Option Addr) (K : Sl → World → Prop) (next6 : (Sl × Int) → World → Prop) : (Sl × Int) → World → Prop := fun (out3_2, i4_3) w_4 =>
  ∃ (a_5 : Addr), w0_1 = some a_5 ∧
  ∃ (t11_6 : Sl), w_4.cell? a_5 = some (.slice t11_6.a t11_6.n t11_6.c) ∧
  ((i4_3 < ((t11_6.n : Int)) →
  kLoop (F61_l2 w0_1 out3_2 i4_3 next6) (0, 0) w_4) ∧
  (¬ (i4_3 < ((t11_6.n : Int))) →
  K out3_2 w_4))
/-- (*turnkey/turnkeyref03.Writer).Bytes -/
def F61 (w0_1 : Option Addr) (K : Sl → World → Prop) (w : World) : Prop :=
  kLoop (F61_l1 w0_1 K) (⟨none, 0, 0⟩, 0) w
set_option maxHeartbeats 4000000 in
set_option maxRecDepth 20000 in
theorem F61_sound (w0_1 : Option Addr) (K : Sl → World → Prop) (w : World) (h : F61 w0_1 K w) :
    Calls Try.prog 61 #[.pointer w0_1] w (fun e w1 => ∃ (r0 : Sl), e = .returned (.slice r0.a r0.n r0.c : Value) ∧ K r0 w1) := by
  unfold F61 at h
  refine y_enter (n := 50) (args := [.pointer w0_1]) Try.func61 rfl rfl rfl fun Q0 hQ0 => ?_
  refine y_seq fun K1 hK1 => ?_
  refine y_region ?_
  refine y_k (.slice none 0 0 : Value) w rfl rfl rfl (by kernel_rfl) ?_
  refine y_nil ?_
  refine y_then (hK1 _ _ ?_)
  refine y_seq fun K2 hK2 => ?_
  refine y_region ?_
  refine y_k (.slice none 0 0 : Value) w rfl rfl rfl (by kernel_rfl) ?_
  refine y_nil ?_
  refine y_then (hK2 _ _ ?_)
  refine y_seq fun K3 hK3 => ?_
  refine y_seq fun K4 hK4 => ?_
  refine y_region ?_
  refine y_k (.int .i64 0 : Value) w rfl rfl rfl (by kernel_rfl) ?_
  refine y_nil ?_
  refine y_then (hK4 _ _ ?_)
  refine y_block ?_
  refine y_loop (S := Sl × Int) (fun s j => match s with | (out3_2, i4_3) => upd (upd (upd (j) 0 (.pointer w0_1 : Value)) 3 (.slice out3_2.a out3_2.n out3_2.c : Value)) 4 (.int .i64 i4_3 : Value)) (⟨none, 0, 0⟩, 0) ?_ h ?_
  · dsimp only
    refine upd_id ?_ rfl
    refine upd_id ?_ rfl
    refine upd_id ?_ rfl
    rfl
  rintro KN7 next6 hN7 ⟨out3_2, i4_3⟩ j w_4 h
  unfold F61_l1 at h
  refine y_seq fun K8 hK8 => ?_
  refine y_seq fun K9 hK9 => ?_
  refine y_region ?_
  refine y_k (.int .i64 i4_3 : Value) w_4 rfl rfl rfl (by kernel_rfl) ?_
  refine y_k (.pointer w0_1 : Value) w_4 rfl rfl rfl (by kernel_rfl) ?_
  obtain ⟨a_5, hx10, h⟩ := h
  refine y_k (.pointer (some a_5) : Value) w_4 rfl rfl rfl (run_nilCheck hx10 rfl) ?_
  refine y_k (.pointer (some a_5) : Value) w_4 rfl rfl rfl (by kernel_rfl) ?_
  obtain ⟨t11_6, hx11, h⟩ := h
  refine y_v (s := Instr.loadAt 111 (.pointer (some a_5))) rfl rfl rfl (by kernel_rfl) (rn_load (by kernel_rfl) hx11) ?_
  refine y_k (.int .i64 ((t11_6.n : Int)) : Value) w_4 rfl rfl rfl (by kernel_rfl) ?_
  refine y_k (.bool (decide (i4_3 < ((t11_6.n : Int)))) : Value) w_4 rfl rfl rfl (by kernel_rfl) ?_
  refine y_nil ?_
  refine y_then (hK9 _ _ ?_)
  refine y_cond (decide (i4_3 < ((t11_6.n : Int)))) rfl rfl (fun hb37 => ?_) (fun hb37 => ?_)
  · replace h := h.1 (of_decide_eq_true hb37)
    refine y_skip ?_
    refine y_then (hK8 _ _ ?_)
    refine y_seq fun K12 hK12 => ?_
    refine y_block ?_
    refine y_seq fun K14 hK14 => ?_
    refine y_region ?_
    refine y_k (.int .i64 0 : Value) w_4 rfl rfl rfl (by kernel_rfl) ?_
    refine y_nil ?_
    refine y_then (hK14 _ _ ?_)
    refine y_seq fun K15 hK15 => ?_
    refine y_seq fun K16 hK16 => ?_
    refine y_region ?_
    refine y_k (.int .i64 0 : Value) w_4 rfl rfl rfl (by kernel_rfl) ?_
    refine y_nil ?_
    refine y_then (hK16 _ _ ?_)
    refine y_block ?_
    refine y_loop (S := Int × Int) (fun s j => match s with | (c5_7, k6_8) => upd (upd (upd (upd (upd (j) 0 (.pointer w0_1 : Value)) 3 (.slice out3_2.a out3_2.n out3_2.c : Value)) 4 (.int .i64 i4_3 : Value)) 5 (.int .i64 c5_7 : Value)) 6 (.int .i64 k6_8 : Value)) (0, 0) ?_ h ?_
    · dsimp only
      refine upd_id ?_ rfl
      refine upd_id ?_ rfl
      refine upd_id ?_ rfl
      refine upd_id ?_ rfl
      refine upd_id ?_ rfl
      rfl
    rintro KN19 next18 hN19 ⟨c5_7, k6_8⟩ j w_9 h
    unfold F61_l2 at h
    refine y_seq fun K20 hK20 => ?_
    refine y_seq fun K21 hK21 => ?_
    refine y_region ?_
    refine y_k (.int .i64 k6_8 : Value) w_9 rfl rfl rfl (by kernel_rfl) ?_
    refine y_k (.bool (decide (k6_8 < 8)) : Value) w_9 rfl rfl rfl (by kernel_rfl) ?_
    refine y_nil ?_
    refine y_then (hK21 _ _ ?_)
    refine y_cond (decide (k6_8 < 8)) rfl rfl (fun hb35 => ?_) (fun hb35 => ?_)
    · replace h := h.1 (of_decide_eq_true hb35)
      refine y_skip ?_
      refine y_then (hK20 _ _ ?_)
      refine y_seq fun K22 hK22 => ?_
      have hjK22 : ∀ (f : Fr) (c5_16 : Int) (w_17 : World), f 0 = (.pointer w0_1 : Value) → f 3 = (.slice out3_2.a out3_2.n out3_2.c : Value) → f 4 = (.int .i64 i4_3 : Value) → f 5 = (.int .i64 c5_16 : Value) → f 6 = (.int .i64 k6_8 : Value) → F61_j3 k6_8 next18 c5_16 w_17 → WK K22 50 f w_17 := by
        intro f c5_16 w_17 e0 e3 e4 e5 e6 h
        refine y_atf (upd_id (upd_id (upd_id (upd_id (upd_id rfl e0) e3) e4) e5) e6) ?_
        clear e0 e3 e4 e5 e6
        unfold F61_j3 at h
        refine hK22 _ _ ?_
        refine y_region ?_
        refine y_k (.int .i64 k6_8 : Value) w_17 rfl rfl rfl (by kernel_rfl) ?_
        refine y_k (.int .i64 (IntKind.i64.wrap (k6_8 + 1)) : Value) w_17 rfl rfl rfl (by kernel_rfl) ?_
        refine y_k (.int .i64 (IntKind.i64.wrap (k6_8 + 1)) : Value) w_17 rfl rfl rfl (by kernel_rfl) ?_
        refine y_nil ?_
        refine y_then (hN19 (c5_16, IntKind.i64.wrap (k6_8 + 1)) _ _ h ?_)
        dsimp only
        refine upd_id ?_ rfl
        refine upd_id ?_ rfl
        refine upd_id ?_ rfl
        refine upd_id ?_ rfl
        refine upd_id ?_ rfl
        rfl
      refine y_block ?_
      refine y_seq fun K24 hK24 => ?_
      refine y_region ?_
      refine y_k (.int .i64 c5_7 : Value) w_9 rfl rfl rfl (by kernel_rfl) ?_
      refine y_k (.int .i64 (IntKind.i64.wrap (2 * c5_7)) : Value) w_9 rfl rfl rfl (by kernel_rfl) ?_
      refine y_k (.int .i64 (IntKind.i64.wrap (2 * c5_7)) : Value) w_9 rfl rfl rfl (by kernel_rfl) ?_
      refine y_nil ?_
      refine y_then (hK24 _ _ ?_)
      refine y_seq fun K25 hK25 => ?_
      refine y_region ?_
      refine y_k (.int .i64 i4_3 : Value) w_9 rfl rfl rfl (by kernel_rfl) ?_
      refine y_k (.int .i64 k6_8 : Value) w_9 rfl rfl rfl (by kernel_rfl) ?_
      refine y_k (.int .i64 (IntKind.i64.wrap (i4_3 + k6_8)) : Value) w_9 rfl rfl rfl (by kernel_rfl) ?_
      refine y_k (.pointer w0_1 : Value) w_9 rfl rfl rfl (by kernel_rfl) ?_
      obtain ⟨a_10, hx26, h⟩ := h
      refine y_k (.pointer (some a_10) : Value) w_9 rfl rfl rfl (run_nilCheck hx26 rfl) ?_
      refine y_k (.pointer (some a_10) : Value) w_9 rfl rfl rfl (by kernel_rfl) ?_
      obtain ⟨t28_11, hx27, h⟩ := h
      refine y_v (s := Instr.loadAt 111 (.pointer (some a_10))) rfl rfl rfl (by kernel_rfl) (rn_load (by kernel_rfl) hx27) ?_
      refine y_k (.int .i64 ((t28_11.n : Int)) : Value) w_9 rfl rfl rfl (by kernel_rfl) ?_
      refine y_k (.bool (decide ((IntKind.i64.wrap (i4_3 + k6_8)) < ((t28_11.n : Int)))) : Value) w_9 rfl rfl rfl (by kernel_rfl) ?_
      refine y_k (.bool (decide ((IntKind.i64.wrap (i4_3 + k6_8)) < ((t28_11.n : Int)))) : Value) w_9 rfl rfl rfl (by kernel_rfl) ?_
      refine y_fork (decide ((IntKind.i64.wrap (i4_3 + k6_8)) < ((t28_11.n : Int)))) (fun hb28 => ?_) (fun hb28 => ?_)
      · replace h := h.1 (of_decide_eq_true hb28)
        refine y_frame (upd_id (i := 31) (v := .bool true) rfl (congrArg Value.bool hb28)) ?_
        refine y_gyes rfl rfl rfl ?_
        refine y_k (.pointer w0_1 : Value) w_9 rfl rfl rfl (by kernel_rfl) ?_
        refine y_gyes rfl rfl rfl ?_
        obtain ⟨a_12, hx29, h⟩ := h
        refine y_k (.pointer (some a_12) : Value) w_9 rfl rfl rfl (run_nilCheck hx29 rfl) ?_
        refine y_gyes rfl rfl rfl ?_
        refine y_k (.pointer (some a_12) : Value) w_9 rfl rfl rfl (by kernel_rfl) ?_
        refine y_gyes rfl rfl rfl ?_
        obtain ⟨t35_13, hx30, h⟩ := h
        refine y_v (s := Instr.loadAt 111 (.pointer (some a_12))) rfl rfl rfl (by kernel_rfl) (rn_load (by kernel_rfl) hx30) ?_
        refine y_gyes rfl rfl rfl ?_
        refine y_k (.int .i64 i4_3 : Value) w_9 rfl rfl rfl (by kernel_rfl) ?_
        refine y_gyes rfl rfl rfl ?_
        refine y_k (.int .i64 k6_8 : Value) w_9 rfl rfl rfl (by kernel_rfl) ?_
        refine y_gyes rfl rfl rfl ?_
        refine y_k (.int .i64 (IntKind.i64.wrap (i4_3 + k6_8)) : Value) w_9 rfl rfl rfl (by kernel_rfl) ?_
        refine y_gyes rfl rfl rfl ?_
        obtain ⟨hx31a, hx31b, a_14, hx31, h⟩ := h
        refine y_v (v := (.pointer (some (a_14.add (Int.toNat (IntKind.i64.wrap (i4_3 + k6_8))))) : Value)) (s := Instr.indexAt 111 (.slice t35_13.a t35_13.n t35_13.c : Value) (.int .i64 (IntKind.i64.wrap (i4_3 + k6_8)) : Value)) rfl rfl rfl (by kernel_rfl) (run_ixs1 (el := 4) (by kernel_rfl) (by kernel_rfl) hx31 hx31a hx31b) ?_
        refine y_gyes rfl rfl rfl ?_
        obtain ⟨t40_15, hx32, h⟩ := h
        refine y_v (s := Instr.loadAt 4 (.pointer (some (a_14.add (Int.toNat (IntKind.i64.wrap (i4_3 + k6_8))))))) rfl rfl rfl (by kernel_rfl) (rn_load (by kernel_rfl) hx32) ?_
        refine y_k (.bool t40_15 : Value) w_9 rfl rfl rfl (by kernel_rfl) ?_
        refine y_nil ?_
        refine y_then (hK25 _ _ ?_)
        refine y_cond (t40_15) rfl rfl (fun hb33 => ?_) (fun hb33 => ?_)
        · replace h := h.1 (hb33)
          refine y_region ?_
          refine y_k (.int .i64 (IntKind.i64.wrap (2 * c5_7)) : Value) w_9 rfl rfl rfl (by kernel_rfl) ?_
          refine y_k (.int .i64 (IntKind.i64.wrap ((IntKind.i64.wrap (2 * c5_7)) + 1)) : Value) w_9 rfl rfl rfl (by kernel_rfl) ?_
          refine y_k (.int .i64 (IntKind.i64.wrap ((IntKind.i64.wrap (2 * c5_7)) + 1)) : Value) w_9 rfl rfl rfl (by kernel_rfl) ?_
          refine y_nil ?_
          refine e_block_n ?_
          exact y_then (hjK22 _ (IntKind.i64.wrap ((IntKind.i64.wrap (2 * c5_7)) + 1)) w_9 rfl rfl rfl rfl rfl h)
        · replace h := h.2 (hb33)
          refine y_skip ?_
          refine e_block_n ?_
          exact y_then (hjK22 _ (IntKind.i64.wrap (2 * c5_7)) w_9 rfl rfl rfl rfl rfl h)
      · replace h := h.2 (of_decide_eq_false hb28)
        refine y_frame (upd_id (i := 31) (v := .bool false) rfl (congrArg Value.bool hb28)) ?_
        refine y_gno rfl rfl rfl rfl ?_
        refine y_gno rfl rfl rfl rfl ?_
        refine y_gno rfl rfl rfl rfl ?_
        refine y_gno rfl rfl rfl rfl ?_
        refine y_gno rfl rfl rfl rfl ?_
        refine y_gno rfl rfl rfl rfl ?_
        refine y_gno rfl rfl rfl rfl ?_
        refine y_gno rfl rfl rfl rfl ?_
        refine y_gno rfl rfl rfl rfl ?_
        refine y_k (.bool false : Value) w_9 rfl rfl rfl (by kernel_rfl) ?_
        refine y_nil ?_
        refine y_then (hK25 _ _ ?_)
        refine y_cond_f rfl rfl ?_
        refine y_skip ?_
        refine e_block_n ?_
        exact y_then (hjK22 _ (IntKind.i64.wrap (2 * c5_7)) w_9 rfl rfl rfl rfl rfl h)
    · replace h := h.2 (of_decide_eq_false hb35)
      refine y_exit ?_
      repeat (first | refine e_then_x ?_ | refine e_block_y rfl ?_)
      refine e_block_x ?_
      refine y_then (hK15 _ _ ?_)
      refine y_region ?_
      refine y_k (.slice out3_2.a out3_2.n out3_2.c : Value) w_9 rfl rfl rfl (by kernel_rfl) ?_
      refine y_k (.int .i64 c5_7 : Value) w_9 rfl rfl rfl (by kernel_rfl) ?_
      refine y_k (.int .u8 (IntKind.u8.wrap c5_7) : Value) w_9 rfl rfl rfl (by kernel_rfl) ?_
      refine y_k (.slice (some ⟨w_9.heap.size, 0, none⟩) 1 1 : Value) (w_9.alloc (.cells #[.int .u8 (IntKind.u8.wrap c5_7)] 5)) rfl rfl rfl (by kernel_rfl) ?_
      replace h := h _ rfl
      generalize w_9.alloc (.cells #[.int .u8 (IntKind.u8.wrap c5_7)] 5) = w_18 at h ⊢
      obtain ⟨t48_19, w_20, hx34, h⟩ := h
      refine y_v (s := Builtin.append_ #[22, 22] 22 #[.slice out3_2.a out3_2.n out3_2.c, .slice (some ⟨w_9.heap.size, 0, none⟩) 1 1]) rfl rfl rfl (by kernel_rfl) hx34 ?_
      refine y_k (.slice t48_19.a t48_19.n t48_19.c : Value) w_20 rfl rfl rfl (by kernel_rfl) ?_
      refine y_nil ?_
      refine e_block_n ?_
      refine y_then (hK12 _ _ ?_)
      refine y_region ?_
      refine y_k (.int .i64 i4_3 : Value) w_20 rfl rfl rfl (by kernel_rfl) ?_
      refine y_k (.int .i64 (IntKind.i64.wrap (i4_3 + 8)) : Value) w_20 rfl rfl rfl (by kernel_rfl) ?_
      refine y_k (.int .i64 (IntKind.i64.wrap (i4_3 + 8)) : Value) w_20 rfl rfl rfl (by kernel_rfl) ?_
      refine y_nil ?_
      refine y_then (hN7 (t48_19, IntKind.i64.wrap (i4_3 + 8)) _ _ h ?_)
      dsimp only
      refine upd_id ?_ rfl
      refine upd_id ?_ rfl
      refine upd_id ?_ rfl
      rfl
  · replace h := h.2 (of_decide_eq_false hb37)
    refine y_exit ?_
    repeat (first | refine e_then_x ?_ | refine e_block_y rfl ?_)
    refine e_block_x ?_
    refine y_then (hK3 _ _ ?_)
    refine y_seq fun K36 hK36 => ?_
    refine y_region ?_
    refine y_k (.slice out3_2.a out3_2.n out3_2.c : Value) w_4 rfl rfl rfl (by kernel_rfl) ?_
    refine y_k (.slice out3_2.a out3_2.n out3_2.c : Value) w_4 rfl rfl rfl (by kernel_rfl) ?_
    refine y_nil ?_
    refine y_then (hK36 _ _ ?_)
    refine y_ret ?_
    repeat (first | refine e_then_r ?_ | refine e_block_r ?_)
    exact (hQ0 _ _ _ (res1 (v := (.slice out3_2.a out3_2.n out3_2.c : Value)) rfl rfl rfl) ⟨_, rfl, h⟩).1

end Go.Proofs.Ythhcaaellhdkiaa
