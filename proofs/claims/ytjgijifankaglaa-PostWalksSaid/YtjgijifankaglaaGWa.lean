/- Printed by gen.py (own program, wip/): for each Go function a predicate transformer and its soundness. -/
import Derived.Test.YtjgijifankaglaaProg
import Derived.Test.YtjgijifankaglaaST
namespace Go.Proofs.Ytjgijifankaglaa
open Go Go.RowKit Go.Proofs.Ytjgijifankaglaa.SX
set_option linter.unusedVariables false

/-- turnkey/post.Walk$1 -/
def F73 (t0_1 : Value) (K : World → Prop) (w : World) : Prop :=
  K w
set_option maxHeartbeats 4000000 in
set_option maxRecDepth 20000 in
theorem F73_sound (t0_1 : Value) (K : World → Prop) (w : World) (h : F73 t0_1 K w) :
    Calls Try.prog 73 #[t0_1] w (fun e w1 => e = .returned (.tuple #[]) ∧ K  w1) := by
  unfold F73 at h
  refine y_enter (n := 2) (args := [t0_1]) Try.func73 rfl rfl rfl fun Q0 hQ0 => ?_
  refine y_skip ?_
  exact (hQ0 _ _ _ (res0 rfl) ⟨rfl, h⟩).2

def F37_l1 (l0_1 : Sl) (K : Value → World → Prop) (w_3 : World) (next8 : (Int) → World → Prop) : (Int) → World → Prop := fun (t11_6) w_7 =>
  ((t11_6 < ((l0_1.n : Int)) →
  (0 : Int) ≤ t11_6 ∧ t11_6 < (l0_1.n : Int) ∧ ∃ (a_8 : Addr), l0_1.a = some a_8 ∧
  ∃ (t14_9 : Sl), w_7.cell? (a_8.add (Int.toNat t11_6)) = some (.slice t14_9.a t14_9.n t14_9.c) ∧
  Calls Try.prog 63 #[.slice t14_9.a t14_9.n t14_9.c] w_7 fun e w_11 => ∃ (t16_10 : Bool), e = .returned (.bool t16_10 : Value) ∧
  ((t16_10 = false →
  K ((Value.func (Fn.func 73) #[] #[])) w_11) ∧
  (t16_10 = true →
  ∀ (w_12 : World), w_12 = w_11.drew →
  ∃ (t18_13 : Sl), w_12.cell? (⟨w_3.heap.size, 0, none⟩ : Addr) = some (.slice t18_13.a t18_13.n t18_13.c) ∧
  Calls Try.prog 65 #[.slice t14_9.a t14_9.n t14_9.c] w_12 fun e w_15 => ∃ (t20_14 : Sl), e = .returned (.slice t20_14.a t20_14.n t20_14.c : Value) ∧ w_15.cell? (⟨w_3.heap.size, 0, none⟩ : Addr) = some (.slice t18_13.a t18_13.n t18_13.c) ∧ 
  ∀ (w_16 : World), w_16 = w_15.alloc (.cells #[.slice t20_14.a t20_14.n t20_14.c] 22) → 
  ∃ (t22_17 : Sl), ∃ (w_18 : World), (Builtin.append_ #[40, 40] 40 #[.slice t18_13.a t18_13.n t18_13.c, .slice (some ⟨w_15.heap.size, 0, none⟩) 1 1]).run Try.prog w_16 = .ok (.slice t22_17.a t22_17.n t22_17.c : Value) w_18 ∧ 
  HasCell w_18 (⟨w_3.heap.size, 0, none⟩ : Addr) ∧ ∀ (w_19 : World), w_19 = w_18.setCell (⟨w_3.heap.size, 0, none⟩ : Addr) (.slice t22_17.a t22_17.n t22_17.c : Value) → 
  next8 (IntKind.i64.wrap (t11_6 + 1)) w_19))) ∧
  (¬ (t11_6 < ((l0_1.n : Int))) →
  K ((Value.func (Fn.func 74) #[] #[.pointer (some (⟨w_3.heap.size, 0, none⟩ : Addr))])) w_7))
/-- turnkey/post.Walk -/
def F37 (l0_1 : Sl) (K : Value → World → Prop) (w : World) : Prop :=
  ∃ (t8_2 : Sl), ∃ (w_3 : World), (Instr.makeSlice 40 (.int .i64 0 : Value) (.int .i64 ((l0_1.n : Int)) : Value)).run Try.prog w = .ok (.slice t8_2.a t8_2.n t8_2.c : Value) w_3 ∧
  ∀ (w_4 : World), w_4 = w_3.alloc (.cells #[.slice none 0 0] 40) →
  HasCell w_4 (⟨w_3.heap.size, 0, none⟩ : Addr) ∧ ∀ (w_5 : World), w_5 = w_4.setCell (⟨w_3.heap.size, 0, none⟩ : Addr) (.slice t8_2.a t8_2.n t8_2.c : Value) →
  kLoop (F37_l1 l0_1 K w_3) (0) w_5
set_option maxHeartbeats 4000000 in
set_option maxRecDepth 20000 in
theorem F37_sound (l0_1 : Sl) (K : Value → World → Prop) (w : World) (h : F37 l0_1 K w) :
    Calls Try.prog 37 #[.slice l0_1.a l0_1.n l0_1.c] w (fun e w1 => ∃ (r0 : Value), e = .returned r0 ∧ K r0 w1) := by
  unfold F37 at h
  refine y_enter (n := 25) (args := [.slice l0_1.a l0_1.n l0_1.c]) Try.func37 rfl rfl rfl fun Q0 hQ0 => ?_
  refine y_seq fun K1 hK1 => ?_
  refine y_region ?_
  refine y_k (Value.nilFunc) w rfl rfl rfl (by kernel_rfl) ?_
  refine y_nil ?_
  refine y_then (hK1 _ _ ?_)
  refine y_seq fun K2 hK2 => ?_
  refine y_region ?_
  refine y_k (.slice l0_1.a l0_1.n l0_1.c : Value) w rfl rfl rfl (by kernel_rfl) ?_
  refine y_k (.int .i64 ((l0_1.n : Int)) : Value) w rfl rfl rfl (by kernel_rfl) ?_
  obtain ⟨t8_2, w_3, hx3, h⟩ := h
  refine y_v (s := Instr.makeSlice 40 (.int .i64 0 : Value) (.int .i64 ((l0_1.n : Int)) : Value)) rfl rfl rfl (by kernel_rfl) hx3 ?_
  refine y_k (.pointer (some (⟨w_3.heap.size, 0, none⟩ : Addr)) : Value) (w_3.alloc (.cells #[.slice none 0 0] 40)) rfl rfl rfl (by kernel_rfl) ?_
  replace h := h _ rfl
  generalize w_3.alloc (.cells #[.slice none 0 0] 40) = w_4 at h ⊢
  obtain ⟨hx4, h⟩ := h
  replace h := h _ rfl
  refine y_u (s := Instr.storeAt 40 (.pointer (some (⟨w_3.heap.size, 0, none⟩ : Addr))) (.slice t8_2.a t8_2.n t8_2.c : Value)) rfl rfl (by kernel_rfl) (rn_store1 (by kernel_rfl) rfl hx4) ?_
  generalize w_4.setCell (⟨w_3.heap.size, 0, none⟩ : Addr) (.slice t8_2.a t8_2.n t8_2.c : Value) = w_5 at h ⊢
  refine y_nil ?_
  refine y_then (hK2 _ _ ?_)
  refine y_seq fun K5 hK5 => ?_
  refine y_seq fun K6 hK6 => ?_
  refine y_region ?_
  refine y_k (.slice l0_1.a l0_1.n l0_1.c : Value) w_5 rfl rfl rfl (by kernel_rfl) ?_
  refine y_k (.int .i64 ((l0_1.n : Int)) : Value) w_5 rfl rfl rfl (by kernel_rfl) ?_
  refine y_k (.int .i64 0 : Value) w_5 rfl rfl rfl (by kernel_rfl) ?_
  refine y_nil ?_
  refine y_then (hK6 _ _ ?_)
  refine y_block ?_
  refine y_loop (S := Int) (fun s j => match s with | (t11_6) => upd (upd (upd (upd (j) 3 (.pointer (some (⟨w_3.heap.size, 0, none⟩ : Addr)) : Value)) 9 (.slice l0_1.a l0_1.n l0_1.c : Value)) 10 (.int .i64 ((l0_1.n : Int)) : Value)) 11 (.int .i64 t11_6 : Value)) (0) ?_ h ?_
  · dsimp only
    refine upd_id ?_ rfl
    refine upd_id ?_ rfl
    refine upd_id ?_ rfl
    refine upd_id ?_ rfl
    rfl
  rintro KN9 next8 hN9 t11_6 j w_7 h
  unfold F37_l1 at h
  refine y_seq fun K10 hK10 => ?_
  refine y_region ?_
  refine y_k (.bool (decide (t11_6 < ((l0_1.n : Int)))) : Value) w_7 rfl rfl rfl (by kernel_rfl) ?_
  refine y_nil ?_
  refine y_then (hK10 _ _ ?_)
  refine y_seq fun K11 hK11 => ?_
  refine y_cond (decide (t11_6 < ((l0_1.n : Int)))) rfl rfl (fun hb28 => ?_) (fun hb28 => ?_)
  · replace h := h.1 (of_decide_eq_true hb28)
    refine y_skip ?_
    refine y_then (hK11 _ _ ?_)
    refine y_seq fun K12 hK12 => ?_
    refine y_block ?_
    refine y_seq fun K14 hK14 => ?_
    refine y_region ?_
    obtain ⟨hx15a, hx15b, a_8, hx15, h⟩ := h
    refine y_v (v := (.pointer (some (a_8.add (Int.toNat t11_6))) : Value)) (s := Instr.indexAt 40 (.slice l0_1.a l0_1.n l0_1.c : Value) (.int .i64 t11_6 : Value)) rfl rfl rfl (by kernel_rfl) (run_ixs1 (el := 22) (by kernel_rfl) (by kernel_rfl) hx15 hx15a hx15b) ?_
    obtain ⟨t14_9, hx16, h⟩ := h
    refine y_v (s := Instr.loadAt 22 (.pointer (some (a_8.add (Int.toNat t11_6))))) rfl rfl rfl (by kernel_rfl) (rn_load (by kernel_rfl) hx16) ?_
    refine y_k (.slice t14_9.a t14_9.n t14_9.c : Value) w_7 rfl rfl rfl (by kernel_rfl) ?_
    refine y_nil ?_
    refine y_then (hK14 _ _ ?_)
    refine y_seq fun K17 hK17 => ?_
    refine y_seq fun K18 hK18 => ?_
    refine y_region ?_
    refine y_k (.slice t14_9.a t14_9.n t14_9.c : Value) w_7 rfl rfl rfl (by kernel_rfl) ?_
    refine y_call rfl rfl rfl (by kernel_rfl) (h.mono ?_)
    rintro _ w_11 ⟨t16_10, rfl, h⟩
    refine ⟨_, rfl, ?_⟩
    refine y_k (.bool (!(t16_10)) : Value) w_11 rfl rfl rfl (by kernel_rfl) ?_
    refine y_nil ?_
    refine y_then (hK18 _ _ ?_)
    refine y_cond (!(t16_10)) rfl rfl (fun hb26 => ?_) (fun hb26 => ?_)
    · replace h := h.1 ((not_true_of hb26))
      refine y_seq fun K19 hK19 => ?_
      refine y_region ?_
      refine y_k (Value.func (Fn.func 73) #[] #[]) w_11 rfl rfl rfl (by kernel_rfl) ?_
      refine y_nil ?_
      refine y_then (hK19 _ _ ?_)
      refine y_ret ?_
      repeat (first | refine e_then_r ?_ | refine e_block_r ?_)
      exact (hQ0 _ _ _ (res1 (v := (Value.func (Fn.func 73) #[] #[])) rfl rfl rfl) ⟨_, rfl, h⟩).1
    · replace h := h.2 ((not_false_of hb26))
      refine y_skip ?_
      refine y_then (hK17 _ _ ?_)
      obtain ⟨w_12, hwd20⟩ : ∃ wd : World, wd = w_11.drew := ⟨_, rfl⟩
      replace h := h _ hwd20
      refine t_region (wd := w_12) [] (by kernel_rfl) hwd20 SF_nil fun Q20 hE20 hp20 hS => ?_
      clear hwd20
      obtain ⟨t18_13, hx21, h⟩ := h
      refine t_add ⟨0, [4, 5], fun wx => wx.cell? (⟨w_3.heap.size, 0, none⟩ : Addr) = some (.slice t18_13.a t18_13.n t18_13.c)⟩ ?_
      replace hS := SF_on (x := ⟨0, [4, 5], fun wx => wx.cell? (⟨w_3.heap.size, 0, none⟩ : Addr) = some (.slice t18_13.a t18_13.n t18_13.c)⟩) hx21 hS
      refine t_v (s := Instr.loadAt 40 (.pointer (some (⟨w_3.heap.size, 0, none⟩ : Addr)))) hp20 hS 0 (.slice t18_13.a t18_13.n t18_13.c : Value) rfl (wanted_none rfl) rfl rfl (by kernel_rfl) (by kernel_rfl) (fun _ hw => rn_load (by kernel_rfl) (Sw.fact (List.Mem.head _) rfl hw)) fun hS => ?_
      refine t_kw hp20 hS 1 (.slice t14_9.a t14_9.n t14_9.c : Value) rfl (wanted_none rfl) rfl rfl (by kernel_rfl) (fun _ _ => by kernel_rfl) fun hS => ?_
      refine t_call 2 (by kernel_rfl) rfl (wanted_none rfl) rfl rfl (by kernel_rfl) (h.mono ?_)
      rintro _ w_15 ⟨t20_14, rfl, hx22, h⟩
      refine ⟨_, rfl, (SF_on hx22 SF_nil), fun hS => ?_⟩
      replace h := h _ rfl
      have hx23 := cell_alloc (ob := (.cells #[.slice t20_14.a t20_14.n t20_14.c] 22)) hx22
      refine t_kstep 3 (.slice (some ⟨w_15.heap.size, 0, none⟩) 1 1 : Value) (w_15.alloc (.cells #[.slice t20_14.a t20_14.n t20_14.c] 22)) (by kernel_rfl) rfl (wanted_none rfl) rfl rfl (by kernel_rfl) (SF_on hx23 SF_nil) fun hS => ?_
      generalize w_15.alloc (.cells #[.slice t20_14.a t20_14.n t20_14.c] 22) = w_16 at hx23 hS h ⊢
      obtain ⟨t22_17, w_18, hx24, h⟩ := h
      refine t_w 4 (s := Builtin.append_ #[40, 40] 40 #[.slice t18_13.a t18_13.n t18_13.c, .slice (some ⟨w_15.heap.size, 0, none⟩) 1 1]) (by kernel_rfl) rfl (wanted_none rfl) rfl rfl (by kernel_rfl) hx24 (SF_off (by kernel_rfl) (by kernel_rfl) SF_nil) fun hS => ?_
      obtain ⟨hx25, h⟩ := h
      replace h := h _ rfl
      refine t_u 5 (s := Instr.storeAt 40 (.pointer (some (⟨w_3.heap.size, 0, none⟩ : Addr))) (.slice t22_17.a t22_17.n t22_17.c : Value)) (by kernel_rfl) rfl (wanted_none rfl) rfl (by kernel_rfl) (rn_store1 (by kernel_rfl) rfl hx25) (SF_off (by kernel_rfl) (by kernel_rfl) SF_nil) fun hS => ?_
      generalize w_18.setCell (⟨w_3.heap.size, 0, none⟩ : Addr) (.slice t22_17.a t22_17.n t22_17.c : Value) = w_19 at hS h ⊢
      refine t_done (by kernel_rfl) (hE20 _ _ ?_)
      refine e_block_n ?_
      refine y_then (hK12 _ _ ?_)
      refine y_region ?_
      refine y_k (.int .i64 (IntKind.i64.wrap (t11_6 + 1)) : Value) w_19 rfl rfl rfl (by kernel_rfl) ?_
      refine y_k (.int .i64 (IntKind.i64.wrap (t11_6 + 1)) : Value) w_19 rfl rfl rfl (by kernel_rfl) ?_
      refine y_nil ?_
      refine y_then (hN9 (IntKind.i64.wrap (t11_6 + 1)) _ _ h ?_)
      dsimp only
      refine upd_id ?_ rfl
      refine upd_id ?_ rfl
      refine upd_id ?_ rfl
      refine upd_id ?_ rfl
      rfl
  · replace h := h.2 (of_decide_eq_false hb28)
    refine y_exit ?_
    repeat (first | refine e_then_x ?_ | refine e_block_y rfl ?_)
    refine e_block_x ?_
    refine y_then (hK5 _ _ ?_)
    refine y_seq fun K27 hK27 => ?_
    refine y_region ?_
    refine y_k (Value.func (Fn.func 74) #[] #[.pointer (some (⟨w_3.heap.size, 0, none⟩ : Addr))]) w_7 rfl rfl rfl (by kernel_rfl) ?_
    refine y_k (Value.func (Fn.func 74) #[] #[.pointer (some (⟨w_3.heap.size, 0, none⟩ : Addr))]) w_7 rfl rfl rfl (by kernel_rfl) ?_
    refine y_nil ?_
    refine y_then (hK27 _ _ ?_)
    refine y_ret ?_
    repeat (first | refine e_then_r ?_ | refine e_block_r ?_)
    exact (hQ0 _ _ _ (res1 (v := (Value.func (Fn.func 74) #[] #[.pointer (some (⟨w_3.heap.size, 0, none⟩ : Addr))])) rfl rfl rfl) ⟨_, rfl, h⟩).1

def F36_j4 (k10_17 : Int) (next35 : (Int × Int) → World → Prop) (n9_26 : Int) (w_27 : World) : Prop :=
  next35 (n9_26, IntKind.i64.wrap (k10_17 + 1)) w_27
def F36_l3 (l0_1 : Sl) (out4_2 : Sl) (many7_13 : Sl) (i8_14 : Int) (next25 : (Sl × Int) → World → Prop) (next35 : (Int × Int) → World → Prop) : (Int × Int) → World → Prop := fun (n9_16, k10_17) w_18 =>
  ((k10_17 < ((l0_1.n : Int)) →
  ∀ (w_19 : World), w_19 = w_18.drew →
  (0 : Int) ≤ k10_17 ∧ k10_17 < (l0_1.n : Int) ∧ ∃ (a_20 : Addr), l0_1.a = some a_20 ∧
  ∃ (t46_21 : Sl), w_19.cell? (a_20.add (Int.toNat k10_17)) = some (.slice t46_21.a t46_21.n t46_21.c) ∧
  (0 : Int) ≤ i8_14 ∧ i8_14 < (out4_2.n : Int) ∧ ∃ (a_22 : Addr), out4_2.a = some a_22 ∧
  ∃ (t50_23 : Int), w_19.cell? (a_22.add (Int.toNat i8_14)) = some (.int .u32 t50_23) ∧
  Calls Try.prog 68 #[.slice t46_21.a t46_21.n t46_21.c, .int .u32 t50_23] w_19 fun e w_25 => ∃ (t51_24 : Bool), e = .returned (.bool t51_24 : Value) ∧ 
  ((t51_24 = true →
  F36_j4 k10_17 next35 (IntKind.i64.wrap (n9_16 + 1)) w_25) ∧
  (t51_24 = false →
  F36_j4 k10_17 next35 n9_16 w_25))) ∧
  (¬ (k10_17 < ((l0_1.n : Int))) →
  ∀ (w_28 : World), w_28 = w_18.alloc (.cells #[.int .i64 n9_16] 3) →
  ∃ (t58_29 : Sl), ∃ (w_30 : World), (Builtin.append_ #[41, 41] 41 #[.slice many7_13.a many7_13.n many7_13.c, .slice (some ⟨w_18.heap.size, 0, none⟩) 1 1]).run Try.prog w_28 = .ok (.slice t58_29.a t58_29.n t58_29.c : Value) w_30 ∧
  next25 (t58_29, IntKind.i64.wrap (i8_14 + 1)) w_30))
def F36_l2 (l0_1 : Sl) (K : Sl → Sl → World → Prop) (out4_2 : Sl) (next25 : (Sl × Int) → World → Prop) : (Sl × Int) → World → Prop := fun (many7_13, i8_14) w_15 =>
  ((i8_14 < ((out4_2.n : Int)) →
  kLoop (F36_l3 l0_1 out4_2 many7_13 i8_14 next25) (0, 0) w_15) ∧
  (¬ (i8_14 < ((out4_2.n : Int))) →
  K out4_2 many7_13 w_15))
def F36_l1 (l0_1 : Sl) (K : Sl → Sl → World → Prop) (next6 : (Sl × Int) → World → Prop) : (Sl × Int) → World → Prop := fun (out4_2, i5_3) w_4 =>
  ((i5_3 < ((l0_1.n : Int)) →
  (0 : Int) ≤ i5_3 ∧ i5_3 < (l0_1.n : Int) ∧ ∃ (a_5 : Addr), l0_1.a = some a_5 ∧
  ∃ (t21_6 : Sl), w_4.cell? (a_5.add (Int.toNat i5_3)) = some (.slice t21_6.a t21_6.n t21_6.c) ∧
  Calls Try.prog 35 #[.slice t21_6.a t21_6.n t21_6.c] w_4 fun e w_8 => ∃ (t22_7 : Bool), e = .returned (.bool t22_7 : Value) ∧
  ((t22_7 = false →
  K (⟨none, 0, 0⟩) (⟨none, 0, 0⟩) w_8) ∧
  (t22_7 = true →
  (0 : Int) ≤ i5_3 ∧ i5_3 < (l0_1.n : Int) ∧ ∃ (a_9 : Addr), l0_1.a = some a_9 ∧
  ∃ (t29_10 : Sl), w_8.cell? (a_9.add (Int.toNat i5_3)) = some (.slice t29_10.a t29_10.n t29_10.c) ∧
  Calls Try.prog 25 #[.slice out4_2.a out4_2.n out4_2.c, .slice t29_10.a t29_10.n t29_10.c] w_8 fun e w_12 => ∃ (t30_11 : Sl), e = .returned (.slice t30_11.a t30_11.n t30_11.c : Value) ∧
  next6 (t30_11, IntKind.i64.wrap (i5_3 + 1)) w_12))) ∧
  (¬ (i5_3 < ((l0_1.n : Int))) →
  kLoop (F36_l2 l0_1 K out4_2) (⟨none, 0, 0⟩, 0) w_4))
/-- turnkey/turnkeyref12.Walk -/
def F36 (l0_1 : Sl) (K : Sl → Sl → World → Prop) (w : World) : Prop :=
  kLoop (F36_l1 l0_1 K) (⟨none, 0, 0⟩, 0) w
set_option maxHeartbeats 4000000 in
set_option maxRecDepth 20000 in
theorem F36_sound (l0_1 : Sl) (K : Sl → Sl → World → Prop) (w : World) (h : F36 l0_1 K w) :
    Calls Try.prog 36 #[.slice l0_1.a l0_1.n l0_1.c] w (fun e w1 => ∃ (r0 : Sl), ∃ (r1 : Sl), e = .returned (.tuple #[.slice r0.a r0.n r0.c, .slice r1.a r1.n r1.c]) ∧ K r0 r1 w1) := by
  unfold F36 at h
  refine y_enter (n := 61) (args := [.slice l0_1.a l0_1.n l0_1.c]) Try.func36 rfl rfl rfl fun Q0 hQ0 => ?_
  refine y_seq fun K1 hK1 => ?_
  refine y_region ?_
  refine y_k (.slice none 0 0 : Value) w rfl rfl rfl (by kernel_rfl) ?_
  refine y_k (.slice none 0 0 : Value) w rfl rfl rfl (by kernel_rfl) ?_
  refine y_nil ?_
  refine y_then (hK1 _ _ ?_)
  refine y_seq fun K2 hK2 => ?_
  refine y_region ?_
  refine y_k (.slice none 0 0 : Value) w rfl rfl rfl (by kernel_rfl) ?_
  refine y_nil ?_
  refine y_then (hK2 _ _ ?_)
  refine y_seq fun K3 hK3 => ?_
  refine y_seq fun K4 hK4 => ?_
  refine y_region ?_
  refine y_k (.int .i64 0 : Value) w rfl rfl rfl (by kernel_rfl) ?_
  refine y_nil ?_
  refine y_then (hK4 _ _ ?_)
  refine y_block ?_
  refine y_loop (S := Sl × Int) (fun s j => match s with | (out4_2, i5_3) => upd (upd (upd (j) 0 (.slice l0_1.a l0_1.n l0_1.c : Value)) 4 (.slice out4_2.a out4_2.n out4_2.c : Value)) 5 (.int .i64 i5_3 : Value)) (⟨none, 0, 0⟩, 0) ?_ h ?_
  · dsimp only
    refine upd_id ?_ rfl
    refine upd_id ?_ rfl
    refine upd_id ?_ rfl
    rfl
  rintro KN7 next6 hN7 ⟨out4_2, i5_3⟩ j w_4 h
  unfold F36_l1 at h
  refine y_seq fun K8 hK8 => ?_
  refine y_seq fun K9 hK9 => ?_
  refine y_region ?_
  refine y_k (.int .i64 i5_3 : Value) w_4 rfl rfl rfl (by kernel_rfl) ?_
  refine y_k (.slice l0_1.a l0_1.n l0_1.c : Value) w_4 rfl rfl rfl (by kernel_rfl) ?_
  refine y_k (.int .i64 ((l0_1.n : Int)) : Value) w_4 rfl rfl rfl (by kernel_rfl) ?_
  refine y_k (.bool (decide (i5_3 < ((l0_1.n : Int)))) : Value) w_4 rfl rfl rfl (by kernel_rfl) ?_
  refine y_nil ?_
  refine y_then (hK9 _ _ ?_)
  refine y_cond (decide (i5_3 < ((l0_1.n : Int)))) rfl rfl (fun hb53 => ?_) (fun hb53 => ?_)
  · replace h := h.1 (of_decide_eq_true hb53)
    refine y_skip ?_
    refine y_then (hK8 _ _ ?_)
    refine y_seq fun K10 hK10 => ?_
    refine y_block ?_
    refine y_seq fun K12 hK12 => ?_
    refine y_region ?_
    refine y_k (.slice l0_1.a l0_1.n l0_1.c : Value) w_4 rfl rfl rfl (by kernel_rfl) ?_
    refine y_k (.int .i64 i5_3 : Value) w_4 rfl rfl rfl (by kernel_rfl) ?_
    obtain ⟨hx13a, hx13b, a_5, hx13, h⟩ := h
    refine y_v (v := (.pointer (some (a_5.add (Int.toNat i5_3))) : Value)) (s := Instr.indexAt 40 (.slice l0_1.a l0_1.n l0_1.c : Value) (.int .i64 i5_3 : Value)) rfl rfl rfl (by kernel_rfl) (run_ixs1 (el := 22) (by kernel_rfl) (by kernel_rfl) hx13 hx13a hx13b) ?_
    obtain ⟨t21_6, hx14, h⟩ := h
    refine y_v (s := Instr.loadAt 22 (.pointer (some (a_5.add (Int.toNat i5_3))))) rfl rfl rfl (by kernel_rfl) (rn_load (by kernel_rfl) hx14) ?_
    refine y_call rfl rfl rfl (by kernel_rfl) (h.mono ?_)
    rintro _ w_8 ⟨t22_7, rfl, h⟩
    refine ⟨_, rfl, ?_⟩
    refine y_k (.bool t22_7 : Value) w_8 rfl rfl rfl (by kernel_rfl) ?_
    refine y_nil ?_
    refine y_then (hK12 _ _ ?_)
    refine y_seq fun K15 hK15 => ?_
    refine y_seq fun K16 hK16 => ?_
    refine y_region ?_
    refine y_k (.bool t22_7 : Value) w_8 rfl rfl rfl (by kernel_rfl) ?_
    refine y_k (.bool (!(t22_7)) : Value) w_8 rfl rfl rfl (by kernel_rfl) ?_
    refine y_nil ?_
    refine y_then (hK16 _ _ ?_)
    refine y_cond (!(t22_7)) rfl rfl (fun hb20 => ?_) (fun hb20 => ?_)
    · replace h := h.1 ((not_true_of hb20))
      refine y_seq fun K17 hK17 => ?_
      refine y_region ?_
      refine y_k (.slice none 0 0 : Value) w_8 rfl rfl rfl (by kernel_rfl) ?_
      refine y_k (.slice none 0 0 : Value) w_8 rfl rfl rfl (by kernel_rfl) ?_
      refine y_nil ?_
      refine y_then (hK17 _ _ ?_)
      refine y_ret ?_
      repeat (first | refine e_then_r ?_ | refine e_block_r ?_)
      exact (hQ0 _ _ _ (res2 (v1 := (.slice none 0 0 : Value)) (v2 := (.slice none 0 0 : Value)) rfl rfl rfl rfl) ⟨_, _, rfl, h⟩).1
    · replace h := h.2 ((not_false_of hb20))
      refine y_skip ?_
      refine y_then (hK15 _ _ ?_)
      refine y_region ?_
      refine y_k (.slice out4_2.a out4_2.n out4_2.c : Value) w_8 rfl rfl rfl (by kernel_rfl) ?_
      refine y_k (.slice l0_1.a l0_1.n l0_1.c : Value) w_8 rfl rfl rfl (by kernel_rfl) ?_
      refine y_k (.int .i64 i5_3 : Value) w_8 rfl rfl rfl (by kernel_rfl) ?_
      obtain ⟨hx18a, hx18b, a_9, hx18, h⟩ := h
      refine y_v (v := (.pointer (some (a_9.add (Int.toNat i5_3))) : Value)) (s := Instr.indexAt 40 (.slice l0_1.a l0_1.n l0_1.c : Value) (.int .i64 i5_3 : Value)) rfl rfl rfl (by kernel_rfl) (run_ixs1 (el := 22) (by kernel_rfl) (by kernel_rfl) hx18 hx18a hx18b) ?_
      obtain ⟨t29_10, hx19, h⟩ := h
      refine y_v (s := Instr.loadAt 22 (.pointer (some (a_9.add (Int.toNat i5_3))))) rfl rfl rfl (by kernel_rfl) (rn_load (by kernel_rfl) hx19) ?_
      refine y_call rfl rfl rfl (by kernel_rfl) (h.mono ?_)
      rintro _ w_12 ⟨t30_11, rfl, h⟩
      refine ⟨_, rfl, ?_⟩
      refine y_k (.slice t30_11.a t30_11.n t30_11.c : Value) w_12 rfl rfl rfl (by kernel_rfl) ?_
      refine y_nil ?_
      refine e_block_n ?_
      refine y_then (hK10 _ _ ?_)
      refine y_region ?_
      refine y_k (.int .i64 i5_3 : Value) w_12 rfl rfl rfl (by kernel_rfl) ?_
      refine y_k (.int .i64 (IntKind.i64.wrap (i5_3 + 1)) : Value) w_12 rfl rfl rfl (by kernel_rfl) ?_
      refine y_k (.int .i64 (IntKind.i64.wrap (i5_3 + 1)) : Value) w_12 rfl rfl rfl (by kernel_rfl) ?_
      refine y_nil ?_
      refine y_then (hN7 (t30_11, IntKind.i64.wrap (i5_3 + 1)) _ _ h ?_)
      dsimp only
      refine upd_id ?_ rfl
      refine upd_id ?_ rfl
      refine upd_id ?_ rfl
      rfl
  · replace h := h.2 (of_decide_eq_false hb53)
    refine y_exit ?_
    repeat (first | refine e_then_x ?_ | refine e_block_y rfl ?_)
    refine e_block_x ?_
    refine y_then (hK3 _ _ ?_)
    refine y_seq fun K21 hK21 => ?_
    refine y_region ?_
    refine y_k (.slice none 0 0 : Value) w_4 rfl rfl rfl (by kernel_rfl) ?_
    refine y_nil ?_
    refine y_then (hK21 _ _ ?_)
    refine y_seq fun K22 hK22 => ?_
    refine y_seq fun K23 hK23 => ?_
    refine y_region ?_
    refine y_k (.int .i64 0 : Value) w_4 rfl rfl rfl (by kernel_rfl) ?_
    refine y_nil ?_
    refine y_then (hK23 _ _ ?_)
    refine y_block ?_
    refine y_loop (S := Sl × Int) (fun s j => match s with | (many7_13, i8_14) => upd (upd (upd (upd (j) 0 (.slice l0_1.a l0_1.n l0_1.c : Value)) 4 (.slice out4_2.a out4_2.n out4_2.c : Value)) 7 (.slice many7_13.a many7_13.n many7_13.c : Value)) 8 (.int .i64 i8_14 : Value)) (⟨none, 0, 0⟩, 0) ?_ h ?_
    · dsimp only
      refine upd_id ?_ rfl
      refine upd_id ?_ rfl
      refine upd_id ?_ rfl
      refine upd_id ?_ rfl
      rfl
    rintro KN26 next25 hN26 ⟨many7_13, i8_14⟩ j w_15 h
    unfold F36_l2 at h
    refine y_seq fun K27 hK27 => ?_
    refine y_seq fun K28 hK28 => ?_
    refine y_region ?_
    refine y_k (.int .i64 i8_14 : Value) w_15 rfl rfl rfl (by kernel_rfl) ?_
    refine y_k (.slice out4_2.a out4_2.n out4_2.c : Value) w_15 rfl rfl rfl (by kernel_rfl) ?_
    refine y_k (.int .i64 ((out4_2.n : Int)) : Value) w_15 rfl rfl rfl (by kernel_rfl) ?_
    refine y_k (.bool (decide (i8_14 < ((out4_2.n : Int)))) : Value) w_15 rfl rfl rfl (by kernel_rfl) ?_
    refine y_nil ?_
    refine y_then (hK28 _ _ ?_)
    refine y_cond (decide (i8_14 < ((out4_2.n : Int)))) rfl rfl (fun hb52 => ?_) (fun hb52 => ?_)
    · replace h := h.1 (of_decide_eq_true hb52)
      refine y_skip ?_
      refine y_then (hK27 _ _ ?_)
      refine y_seq fun K29 hK29 => ?_
      refine y_block ?_
      refine y_seq fun K31 hK31 => ?_
      refine y_region ?_
      refine y_k (.int .i64 0 : Value) w_15 rfl rfl rfl (by kernel_rfl) ?_
      refine y_nil ?_
      refine y_then (hK31 _ _ ?_)
      refine y_seq fun K32 hK32 => ?_
      refine y_seq fun K33 hK33 => ?_
      refine y_region ?_
      refine y_k (.int .i64 0 : Value) w_15 rfl rfl rfl (by kernel_rfl) ?_
      refine y_nil ?_
      refine y_then (hK33 _ _ ?_)
      refine y_block ?_
      refine y_loop (S := Int × Int) (fun s j => match s with | (n9_16, k10_17) => upd (upd (upd (upd (upd (upd (j) 0 (.slice l0_1.a l0_1.n l0_1.c : Value)) 4 (.slice out4_2.a out4_2.n out4_2.c : Value)) 7 (.slice many7_13.a many7_13.n many7_13.c : Value)) 8 (.int .i64 i8_14 : Value)) 9 (.int .i64 n9_16 : Value)) 10 (.int .i64 k10_17 : Value)) (0, 0) ?_ h ?_
      · dsimp only
        refine upd_id ?_ rfl
        refine upd_id ?_ rfl
        refine upd_id ?_ rfl
        refine upd_id ?_ rfl
        refine upd_id ?_ rfl
        refine upd_id ?_ rfl
        rfl
      rintro KN36 next35 hN36 ⟨n9_16, k10_17⟩ j w_18 h
      unfold F36_l3 at h
      refine y_seq fun K37 hK37 => ?_
      refine y_seq fun K38 hK38 => ?_
      refine y_region ?_
      refine y_k (.int .i64 k10_17 : Value) w_18 rfl rfl rfl (by kernel_rfl) ?_
      refine y_k (.slice l0_1.a l0_1.n l0_1.c : Value) w_18 rfl rfl rfl (by kernel_rfl) ?_
      refine y_k (.int .i64 ((l0_1.n : Int)) : Value) w_18 rfl rfl rfl (by kernel_rfl) ?_
      refine y_k (.bool (decide (k10_17 < ((l0_1.n : Int)))) : Value) w_18 rfl rfl rfl (by kernel_rfl) ?_
      refine y_nil ?_
      refine y_then (hK38 _ _ ?_)
      refine y_cond (decide (k10_17 < ((l0_1.n : Int)))) rfl rfl (fun hb50 => ?_) (fun hb50 => ?_)
      · replace h := h.1 (of_decide_eq_true hb50)
        refine y_skip ?_
        refine y_then (hK37 _ _ ?_)
        refine y_seq fun K39 hK39 => ?_
        have hjK39 : ∀ (f : Fr) (n9_26 : Int) (w_27 : World), f 0 = (.slice l0_1.a l0_1.n l0_1.c : Value) → f 4 = (.slice out4_2.a out4_2.n out4_2.c : Value) → f 7 = (.slice many7_13.a many7_13.n many7_13.c : Value) → f 8 = (.int .i64 i8_14 : Value) → f 9 = (.int .i64 n9_26 : Value) → f 10 = (.int .i64 k10_17 : Value) → F36_j4 k10_17 next35 n9_26 w_27 → WK K39 61 f w_27 := by
          intro f n9_26 w_27 e0 e4 e7 e8 e9 e10 h
          refine y_atf (upd_id (upd_id (upd_id (upd_id (upd_id (upd_id rfl e0) e4) e7) e8) e9) e10) ?_
          clear e0 e4 e7 e8 e9 e10
          unfold F36_j4 at h
          refine hK39 _ _ ?_
          refine y_region ?_
          refine y_k (.int .i64 k10_17 : Value) w_27 rfl rfl rfl (by kernel_rfl) ?_
          refine y_k (.int .i64 (IntKind.i64.wrap (k10_17 + 1)) : Value) w_27 rfl rfl rfl (by kernel_rfl) ?_
          refine y_k (.int .i64 (IntKind.i64.wrap (k10_17 + 1)) : Value) w_27 rfl rfl rfl (by kernel_rfl) ?_
          refine y_nil ?_
          refine y_then (hN36 (n9_26, IntKind.i64.wrap (k10_17 + 1)) _ _ h ?_)
          dsimp only
          refine upd_id ?_ rfl
          refine upd_id ?_ rfl
          refine upd_id ?_ rfl
          refine upd_id ?_ rfl
          refine upd_id ?_ rfl
          refine upd_id ?_ rfl
          rfl
        refine y_block ?_
        refine y_seq fun K41 hK41 => ?_
        obtain ⟨w_19, hwd42⟩ : ∃ wd : World, wd = w_18.drew := ⟨_, rfl⟩
        replace h := h _ hwd42
        refine t_region (wd := w_19) [] (by kernel_rfl) hwd42 SF_nil fun Q42 hE42 hp42 hS => ?_
        clear hwd42
        refine t_kw hp42 hS 0 (.slice l0_1.a l0_1.n l0_1.c : Value) rfl (wanted_none rfl) rfl rfl (by kernel_rfl) (fun _ _ => by kernel_rfl) fun hS => ?_
        refine t_kw hp42 hS 1 (.int .i64 k10_17 : Value) rfl (wanted_none rfl) rfl rfl (by kernel_rfl) (fun _ _ => by kernel_rfl) fun hS => ?_
        obtain ⟨hx43a, hx43b, a_20, hx43, h⟩ := h
        refine t_v (s := Instr.indexAt 40 (.slice l0_1.a l0_1.n l0_1.c : Value) (.int .i64 k10_17 : Value)) hp42 hS 2 (.pointer (some (a_20.add (Int.toNat k10_17))) : Value) rfl (wanted_none rfl) rfl rfl (by kernel_rfl) (by kernel_rfl) (fun _ _ => run_ixs1 (el := 22) (by kernel_rfl) (by kernel_rfl) hx43 hx43a hx43b) fun hS => ?_
        obtain ⟨t46_21, hx44, h⟩ := h
        refine t_add ⟨3, [8], fun wx => wx.cell? (a_20.add (Int.toNat k10_17)) = some (.slice t46_21.a t46_21.n t46_21.c)⟩ ?_
        replace hS := SF_on (x := ⟨3, [8], fun wx => wx.cell? (a_20.add (Int.toNat k10_17)) = some (.slice t46_21.a t46_21.n t46_21.c)⟩) hx44 hS
        refine t_v (s := Instr.loadAt 22 (.pointer (some (a_20.add (Int.toNat k10_17))))) hp42 hS 3 (.slice t46_21.a t46_21.n t46_21.c : Value) rfl (wanted_none rfl) rfl rfl (by kernel_rfl) (by kernel_rfl) (fun _ hw => rn_load (by kernel_rfl) (Sw.fact (List.Mem.head _) rfl hw)) fun hS => ?_
        refine t_kw hp42 hS 4 (.slice out4_2.a out4_2.n out4_2.c : Value) rfl (wanted_none rfl) rfl rfl (by kernel_rfl) (fun _ _ => by kernel_rfl) fun hS => ?_
        refine t_kw hp42 hS 5 (.int .i64 i8_14 : Value) rfl (wanted_none rfl) rfl rfl (by kernel_rfl) (fun _ _ => by kernel_rfl) fun hS => ?_
        obtain ⟨hx45a, hx45b, a_22, hx45, h⟩ := h
        refine t_v (s := Instr.indexAt 22 (.slice out4_2.a out4_2.n out4_2.c : Value) (.int .i64 i8_14 : Value)) hp42 hS 6 (.pointer (some (a_22.add (Int.toNat i8_14))) : Value) rfl (wanted_none rfl) rfl rfl (by kernel_rfl) (by kernel_rfl) (fun _ _ => run_ixs1 (el := 23) (by kernel_rfl) (by kernel_rfl) hx45 hx45a hx45b) fun hS => ?_
        obtain ⟨t50_23, hx46, h⟩ := h
        refine t_add ⟨7, [8], fun wx => wx.cell? (a_22.add (Int.toNat i8_14)) = some (.int .u32 t50_23)⟩ ?_
        replace hS := SF_on (x := ⟨7, [8], fun wx => wx.cell? (a_22.add (Int.toNat i8_14)) = some (.int .u32 t50_23)⟩) hx46 hS
        refine t_v (s := Instr.loadAt 23 (.pointer (some (a_22.add (Int.toNat i8_14))))) hp42 hS 7 (.int .u32 t50_23 : Value) rfl (wanted_none rfl) rfl rfl (by kernel_rfl) (by kernel_rfl) (fun _ hw => rn_load (by kernel_rfl) (Sw.fact (List.Mem.head _) rfl hw)) fun hS => ?_
        refine t_call 8 (by kernel_rfl) rfl (wanted_none rfl) rfl rfl (by kernel_rfl) (h.mono ?_)
        rintro _ w_25 ⟨t51_24, rfl, h⟩
        refine ⟨_, rfl, (SF_off (by kernel_rfl) (by kernel_rfl) (SF_off (by kernel_rfl) (by kernel_rfl) SF_nil)), fun hS => ?_⟩
        refine t_kw hp42 hS 9 (.bool t51_24 : Value) rfl (wanted_none rfl) rfl rfl (by kernel_rfl) (fun _ _ => by kernel_rfl) fun hS => ?_
        refine t_done (by kernel_rfl) (hE42 _ _ ?_)
        refine y_then (hK41 _ _ ?_)
        refine y_seq fun K47 hK47 => ?_
        refine y_region ?_
        refine y_k (.bool t51_24 : Value) w_25 rfl rfl rfl (by kernel_rfl) ?_
        refine y_nil ?_
        refine y_then (hK47 _ _ ?_)
        refine y_cond (t51_24) rfl rfl (fun hb48 => ?_) (fun hb48 => ?_)
        · replace h := h.1 (hb48)
          refine y_region ?_
          refine y_k (.int .i64 n9_16 : Value) w_25 rfl rfl rfl (by kernel_rfl) ?_
          refine y_k (.int .i64 (IntKind.i64.wrap (n9_16 + 1)) : Value) w_25 rfl rfl rfl (by kernel_rfl) ?_
          refine y_k (.int .i64 (IntKind.i64.wrap (n9_16 + 1)) : Value) w_25 rfl rfl rfl (by kernel_rfl) ?_
          refine y_nil ?_
          refine e_block_n ?_
          exact y_then (hjK39 _ (IntKind.i64.wrap (n9_16 + 1)) w_25 rfl rfl rfl rfl rfl rfl h)
        · replace h := h.2 (hb48)
          refine y_skip ?_
          refine e_block_n ?_
          exact y_then (hjK39 _ n9_16 w_25 rfl rfl rfl rfl rfl rfl h)
      · replace h := h.2 (of_decide_eq_false hb50)
        refine y_exit ?_
        repeat (first | refine e_then_x ?_ | refine e_block_y rfl ?_)
        refine e_block_x ?_
        refine y_then (hK32 _ _ ?_)
        refine y_region ?_
        refine y_k (.slice many7_13.a many7_13.n many7_13.c : Value) w_18 rfl rfl rfl (by kernel_rfl) ?_
        refine y_k (.int .i64 n9_16 : Value) w_18 rfl rfl rfl (by kernel_rfl) ?_
        refine y_k (.slice (some ⟨w_18.heap.size, 0, none⟩) 1 1 : Value) (w_18.alloc (.cells #[.int .i64 n9_16] 3)) rfl rfl rfl (by kernel_rfl) ?_
        replace h := h _ rfl
        generalize w_18.alloc (.cells #[.int .i64 n9_16] 3) = w_28 at h ⊢
        obtain ⟨t58_29, w_30, hx49, h⟩ := h
        refine y_v (s := Builtin.append_ #[41, 41] 41 #[.slice many7_13.a many7_13.n many7_13.c, .slice (some ⟨w_18.heap.size, 0, none⟩) 1 1]) rfl rfl rfl (by kernel_rfl) hx49 ?_
        refine y_k (.slice t58_29.a t58_29.n t58_29.c : Value) w_30 rfl rfl rfl (by kernel_rfl) ?_
        refine y_nil ?_
        refine e_block_n ?_
        refine y_then (hK29 _ _ ?_)
        refine y_region ?_
        refine y_k (.int .i64 i8_14 : Value) w_30 rfl rfl rfl (by kernel_rfl) ?_
        refine y_k (.int .i64 (IntKind.i64.wrap (i8_14 + 1)) : Value) w_30 rfl rfl rfl (by kernel_rfl) ?_
        refine y_k (.int .i64 (IntKind.i64.wrap (i8_14 + 1)) : Value) w_30 rfl rfl rfl (by kernel_rfl) ?_
        refine y_nil ?_
        refine y_then (hN26 (t58_29, IntKind.i64.wrap (i8_14 + 1)) _ _ h ?_)
        dsimp only
        refine upd_id ?_ rfl
        refine upd_id ?_ rfl
        refine upd_id ?_ rfl
        refine upd_id ?_ rfl
        rfl
    · replace h := h.2 (of_decide_eq_false hb52)
      refine y_exit ?_
      repeat (first | refine e_then_x ?_ | refine e_block_y rfl ?_)
      refine e_block_x ?_
      refine y_then (hK22 _ _ ?_)
      refine y_seq fun K51 hK51 => ?_
      refine y_region ?_
      refine y_k (.slice out4_2.a out4_2.n out4_2.c : Value) w_15 rfl rfl rfl (by kernel_rfl) ?_
      refine y_k (.slice many7_13.a many7_13.n many7_13.c : Value) w_15 rfl rfl rfl (by kernel_rfl) ?_
      refine y_k (.slice out4_2.a out4_2.n out4_2.c : Value) w_15 rfl rfl rfl (by kernel_rfl) ?_
      refine y_k (.slice many7_13.a many7_13.n many7_13.c : Value) w_15 rfl rfl rfl (by kernel_rfl) ?_
      refine y_nil ?_
      refine y_then (hK51 _ _ ?_)
      refine y_ret ?_
      repeat (first | refine e_then_r ?_ | refine e_block_r ?_)
      exact (hQ0 _ _ _ (res2 (v1 := (.slice out4_2.a out4_2.n out4_2.c : Value)) (v2 := (.slice many7_13.a many7_13.n many7_13.c : Value)) rfl rfl rfl rfl) ⟨_, _, rfl, h⟩).1

end Go.Proofs.Ytjgijifankaglaa
