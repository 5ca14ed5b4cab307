/- Printed by gen.py (own program, wip/): for each Go function a predicate transformer and its soundness. -/
import Derived.Test.YtjgijifankaglaaProg
import Derived.Test.YtjgijifankaglaaST
namespace Go.Proofs.Ytjgijifankaglaa
open Go Go.RowKit Go.Proofs.Ytjgijifankaglaa.SX
set_option linter.unusedVariables false

def F7_j1 (K : Bool → World → Prop) (t2_23 : Bool) (w_24 : World) : Prop :=
  K t2_23 w_24
/-- turnkey/turnkeylaw02.SumTells -/
def F7 (b0_1 : Sl) (K : Bool → World → Prop) (w : World) : Prop :=
  Calls Try.prog 38 #[] w fun e w_3 => ∃ (t8_2 : Bool), e = .returned (.bool t8_2 : Value) ∧
  Calls Try.prog 39 #[.slice b0_1.a b0_1.n b0_1.c] w_3 fun e w_5 => ∃ (t10_4 : Sl), e = .returned (.slice t10_4.a t10_4.n t10_4.c : Value) ∧
  ∃ (t14_6 : Sl), (Instr.sliceAt 33 (.slice t10_4.a t10_4.n t10_4.c : Value) none (some (.int .i64 ((b0_1.n : Int)) : Value)) none).run Try.prog w_5 = .ok (.slice t14_6.a t14_6.n t14_6.c : Value) w_5 ∧
  Calls Try.prog 40 #[.slice t14_6.a t14_6.n t14_6.c] w_5 fun e w_8 => ∃ (t15_7 : Int), e = .returned (.int .u32 t15_7 : Value) ∧
  ∃ (t19_9 : Sl), (Instr.sliceAt 33 (.slice t10_4.a t10_4.n t10_4.c : Value) none (some (.int .i64 ((b0_1.n : Int)) : Value)) none).run Try.prog w_8 = .ok (.slice t19_9.a t19_9.n t19_9.c : Value) w_8 ∧
  Calls Try.prog 41 #[.slice t19_9.a t19_9.n t19_9.c] w_8 fun e w_11 => ∃ (t20_10 : Value), e = .returned t20_10 ∧
  ∀ (w_12 : World), w_12 = w_11.alloc (.cells #[.int .u8 0, .int .u8 0, .int .u8 0, .int .u8 0, .int .u8 0, .int .u8 0, .int .u8 0, .int .u8 0, .int .u8 0, .int .u8 0, .int .u8 0, .int .u8 0, .int .u8 0, .int .u8 0, .int .u8 0, .int .u8 0, .int .u8 0, .int .u8 0, .int .u8 0, .int .u8 0, .int .u8 0, .int .u8 0, .int .u8 0, .int .u8 0, .int .u8 0, .int .u8 0, .int .u8 0, .int .u8 0, .int .u8 0, .int .u8 0, .int .u8 0, .int .u8 0] 50) →
  ∃ (w_13 : World), (Instr.storeAt 50 (.pointer (some (⟨w_11.heap.size, 0, none⟩ : Addr))) t20_10).run Try.prog w_12 = .ok () w_13 ∧
  Calls Try.prog 42 #[.slice t10_4.a t10_4.n t10_4.c, .slice b0_1.a b0_1.n b0_1.c] w_13 fun e w_15 => ∃ (t23_14 : Bool), e = .returned (.bool t23_14 : Value) ∧
  ∀ (w_16 : World), w_16 = w_15.drew →
  ((t8_2 = true →
  ((t23_14 = true →
  Calls Try.prog 43 #[.slice b0_1.a b0_1.n b0_1.c] w_16 fun e w_18 => ∃ (t31_17 : Int), e = .returned (.int .u32 t31_17 : Value) ∧ 
  ((t15_7 = t31_17 →
  ∃ (t35_19 : Value), (Instr.loadAt 50 (.pointer (some (⟨w_11.heap.size, 0, none⟩ : Addr)))).run Try.prog w_18 = .ok t35_19 w_18 ∧
  Calls Try.prog 44 #[.slice b0_1.a b0_1.n b0_1.c] w_18 fun e w_21 => ∃ (t37_20 : Value), e = .returned t37_20 ∧ (Instr.loadAt 50 (.pointer (some (⟨w_11.heap.size, 0, none⟩ : Addr)))).run Try.prog w_21 = .ok t35_19 w_21 ∧ 
  ∃ (t38_22 : Bool), (do eqGuard .eql 50 (Operand.tmp 35) (Operand.tmp 37) t35_19 t37_20; binOp .eql 50 t35_19 t37_20).run Try.prog w_21 = .ok (.bool t38_22 : Value) w_21 ∧
  F7_j1 K t38_22 w_21) ∧
  (¬ t15_7 = t31_17 →
  F7_j1 K false w_18))) ∧
  (t23_14 = false →
  F7_j1 K false w_16))) ∧
  (t8_2 = false →
  F7_j1 K false w_16))
set_option maxHeartbeats 4000000 in
set_option maxRecDepth 20000 in
theorem F7_sound (b0_1 : Sl) (K : Bool → World → Prop) (w : World) (h : F7 b0_1 K w) :
    Calls Try.prog 7 #[.slice b0_1.a b0_1.n b0_1.c] w (fun e w1 => ∃ (r0 : Bool), e = .returned (.bool r0 : Value) ∧ K r0 w1) := by
  unfold F7 at h
  refine y_enter (n := 40) (args := [.slice b0_1.a b0_1.n b0_1.c]) Try.func7 rfl rfl rfl fun Q0 hQ0 => ?_
  refine y_seq fun K1 hK1 => ?_
  refine y_region ?_
  refine y_k (.bool false : Value) w rfl rfl rfl (by kernel_rfl) ?_
  refine y_nil ?_
  refine y_then (hK1 _ _ ?_)
  refine y_seq fun K2 hK2 => ?_
  refine y_region ?_
  refine y_call rfl rfl rfl (by kernel_rfl) (h.mono ?_)
  rintro _ w_3 ⟨t8_2, rfl, h⟩
  refine ⟨_, rfl, ?_⟩
  refine y_k (.bool t8_2 : Value) w_3 rfl rfl rfl (by kernel_rfl) ?_
  refine y_nil ?_
  refine y_then (hK2 _ _ ?_)
  refine y_seq fun K3 hK3 => ?_
  refine y_region ?_
  refine y_k (.slice b0_1.a b0_1.n b0_1.c : Value) w_3 rfl rfl rfl (by kernel_rfl) ?_
  refine y_call rfl rfl rfl (by kernel_rfl) (h.mono ?_)
  rintro _ w_5 ⟨t10_4, rfl, h⟩
  refine ⟨_, rfl, ?_⟩
  refine y_k (.slice t10_4.a t10_4.n t10_4.c : Value) w_5 rfl rfl rfl (by kernel_rfl) ?_
  refine y_nil ?_
  refine y_then (hK3 _ _ ?_)
  refine y_seq fun K4 hK4 => ?_
  refine y_region ?_
  refine y_k (.slice t10_4.a t10_4.n t10_4.c : Value) w_5 rfl rfl rfl (by kernel_rfl) ?_
  refine y_k (.slice b0_1.a b0_1.n b0_1.c : Value) w_5 rfl rfl rfl (by kernel_rfl) ?_
  refine y_k (.int .i64 ((b0_1.n : Int)) : Value) w_5 rfl rfl rfl (by kernel_rfl) ?_
  obtain ⟨t14_6, hx5, h⟩ := h
  refine y_v (s := Instr.sliceAt 33 (.slice t10_4.a t10_4.n t10_4.c : Value) none (some (.int .i64 ((b0_1.n : Int)) : Value)) none) rfl rfl rfl (by kernel_rfl) (hx5) ?_
  refine y_call rfl rfl rfl (by kernel_rfl) (h.mono ?_)
  rintro _ w_8 ⟨t15_7, rfl, h⟩
  refine ⟨_, rfl, ?_⟩
  refine y_k (.int .u32 t15_7 : Value) w_8 rfl rfl rfl (by kernel_rfl) ?_
  refine y_nil ?_
  refine y_then (hK4 _ _ ?_)
  refine y_seq fun K6 hK6 => ?_
  refine y_region ?_
  refine y_k (.slice t10_4.a t10_4.n t10_4.c : Value) w_8 rfl rfl rfl (by kernel_rfl) ?_
  refine y_k (.slice b0_1.a b0_1.n b0_1.c : Value) w_8 rfl rfl rfl (by kernel_rfl) ?_
  refine y_k (.int .i64 ((b0_1.n : Int)) : Value) w_8 rfl rfl rfl (by kernel_rfl) ?_
  obtain ⟨t19_9, hx7, h⟩ := h
  refine y_v (s := Instr.sliceAt 33 (.slice t10_4.a t10_4.n t10_4.c : Value) none (some (.int .i64 ((b0_1.n : Int)) : Value)) none) rfl rfl rfl (by kernel_rfl) (hx7) ?_
  refine y_call rfl rfl rfl (by kernel_rfl) (h.mono ?_)
  rintro _ w_11 ⟨t20_10, rfl, h⟩
  refine ⟨_, rfl, ?_⟩
  refine y_k (.pointer (some (⟨w_11.heap.size, 0, none⟩ : Addr)) : Value) (w_11.alloc (.cells #[.int .u8 0, .int .u8 0, .int .u8 0, .int .u8 0, .int .u8 0, .int .u8 0, .int .u8 0, .int .u8 0, .int .u8 0, .int .u8 0, .int .u8 0, .int .u8 0, .int .u8 0, .int .u8 0, .int .u8 0, .int .u8 0, .int .u8 0, .int .u8 0, .int .u8 0, .int .u8 0, .int .u8 0, .int .u8 0, .int .u8 0, .int .u8 0, .int .u8 0, .int .u8 0, .int .u8 0, .int .u8 0, .int .u8 0, .int .u8 0, .int .u8 0, .int .u8 0] 50)) rfl rfl rfl (by kernel_rfl) ?_
  replace h := h _ rfl
  generalize w_11.alloc (.cells #[.int .u8 0, .int .u8 0, .int .u8 0, .int .u8 0, .int .u8 0, .int .u8 0, .int .u8 0, .int .u8 0, .int .u8 0, .int .u8 0, .int .u8 0, .int .u8 0, .int .u8 0, .int .u8 0, .int .u8 0, .int .u8 0, .int .u8 0, .int .u8 0, .int .u8 0, .int .u8 0, .int .u8 0, .int .u8 0, .int .u8 0, .int .u8 0, .int .u8 0, .int .u8 0, .int .u8 0, .int .u8 0, .int .u8 0, .int .u8 0, .int .u8 0, .int .u8 0] 50) = w_12 at h ⊢
  obtain ⟨w_13, hx8, h⟩ := h
  refine y_u (s := Instr.storeAt 50 (.pointer (some (⟨w_11.heap.size, 0, none⟩ : Addr))) t20_10) rfl rfl (by kernel_rfl) hx8 ?_
  refine y_nil ?_
  refine y_then (hK6 _ _ ?_)
  refine y_seq fun K9 hK9 => ?_
  refine y_region ?_
  refine y_k (.slice t10_4.a t10_4.n t10_4.c : Value) w_13 rfl rfl rfl (by kernel_rfl) ?_
  refine y_k (.slice b0_1.a b0_1.n b0_1.c : Value) w_13 rfl rfl rfl (by kernel_rfl) ?_
  refine y_call rfl rfl rfl (by kernel_rfl) (h.mono ?_)
  rintro _ w_15 ⟨t23_14, rfl, h⟩
  refine ⟨_, rfl, ?_⟩
  refine y_k (.bool t23_14 : Value) w_15 rfl rfl rfl (by kernel_rfl) ?_
  refine y_nil ?_
  refine y_then (hK9 _ _ ?_)
  refine y_seq fun K10 hK10 => ?_
  have hjK10 : ∀ (f : Fr) (t2_23 : Bool) (w_24 : World), f 2 = (.bool t2_23 : Value) → F7_j1 K t2_23 w_24 → WK K10 40 f w_24 := by
    intro f t2_23 w_24 e2 h
    refine y_atf (upd_id rfl e2) ?_
    clear e2
    unfold F7_j1 at h
    refine hK10 _ _ ?_
    refine y_ret ?_
    repeat (first | refine e_then_r ?_ | refine e_block_r ?_)
    exact (hQ0 _ _ _ (res1 (v := (.bool t2_23 : Value)) rfl rfl rfl) ⟨_, rfl, h⟩).1
  obtain ⟨w_16, hwd11⟩ : ∃ wd : World, wd = w_15.drew := ⟨_, rfl⟩
  replace h := h _ hwd11
  refine t_region (wd := w_16) [] (by kernel_rfl) hwd11 SF_nil fun Q11 hE11 hp11 hS => ?_
  clear hwd11
  refine t_kw hp11 hS 0 (.bool t8_2 : Value) rfl (wanted_none rfl) rfl rfl (by kernel_rfl) (fun _ _ => by kernel_rfl) fun hS => ?_
  refine t_kw hp11 hS 1 (.bool t8_2 : Value) rfl (wanted_none rfl) rfl rfl (by kernel_rfl) (fun _ _ => by kernel_rfl) fun hS => ?_
  refine t_fork (t8_2) (fun hb12 => ?_) (fun hb12 => ?_)
  · replace h := h.1 (hb12)
    refine t_frame (upd_id (i := 25) (v := .bool true) rfl (congrArg Value.bool hb12)) ?_
    refine t_kw hp11 hS 2 (.bool t23_14 : Value) rfl (wanted_some rfl rfl rfl rfl) rfl rfl (by kernel_rfl) (fun _ _ => by kernel_rfl) fun hS => ?_
    refine t_kw hp11 hS 3 (.bool t23_14 : Value) rfl (wanted_none rfl) rfl rfl (by kernel_rfl) (fun _ _ => by kernel_rfl) fun hS => ?_
    refine t_kw hp11 hS 4 (.bool t23_14 : Value) rfl (wanted_none rfl) rfl rfl (by kernel_rfl) (fun _ _ => by kernel_rfl) fun hS => ?_
    refine t_fork (t23_14) (fun hb13 => ?_) (fun hb13 => ?_)
    · replace h := h.1 (hb13)
      refine t_frame (upd_id (i := 28) (v := .bool true) rfl (congrArg Value.bool hb13)) ?_
      refine t_kw hp11 hS 5 (.int .u32 t15_7 : Value) rfl (wanted_some rfl rfl rfl rfl) rfl rfl (by kernel_rfl) (fun _ _ => by kernel_rfl) fun hS => ?_
      refine t_kw hp11 hS 6 (.slice b0_1.a b0_1.n b0_1.c : Value) rfl (wanted_some rfl rfl rfl rfl) rfl rfl (by kernel_rfl) (fun _ _ => by kernel_rfl) fun hS => ?_
      refine t_call 7 (by kernel_rfl) rfl (wanted_some rfl rfl rfl rfl) rfl rfl (by kernel_rfl) (h.mono ?_)
      rintro _ w_18 ⟨t31_17, rfl, h⟩
      refine ⟨_, rfl, SF_nil, fun hS => ?_⟩
      refine t_kw hp11 hS 8 (.bool ((t15_7 == t31_17)) : Value) rfl (wanted_some rfl rfl rfl rfl) rfl rfl (by kernel_rfl) (fun _ _ => by kernel_rfl) fun hS => ?_
      refine t_kw hp11 hS 9 (.bool ((t15_7 == t31_17)) : Value) rfl (wanted_none rfl) rfl rfl (by kernel_rfl) (fun _ _ => by kernel_rfl) fun hS => ?_
      refine t_kw hp11 hS 10 (.bool ((t15_7 == t31_17)) : Value) rfl (wanted_none rfl) rfl rfl (by kernel_rfl) (fun _ _ => by kernel_rfl) fun hS => ?_
      refine t_fork ((t15_7 == t31_17)) (fun hb14 => ?_) (fun hb14 => ?_)
      · replace h := h.1 (eq_of_beq hb14)
        refine t_frame (upd_id (i := 34) (v := .bool true) rfl (congrArg Value.bool hb14)) ?_
        obtain ⟨t35_19, hx15, h⟩ := h
        refine t_add ⟨11, [], fun wx => (Instr.loadAt 50 (.pointer (some (⟨w_11.heap.size, 0, none⟩ : Addr)))).run Try.prog wx = .ok t35_19 wx⟩ ?_
        replace hS := SF_on (x := ⟨11, [], fun wx => (Instr.loadAt 50 (.pointer (some (⟨w_11.heap.size, 0, none⟩ : Addr)))).run Try.prog wx = .ok t35_19 wx⟩) hx15 hS
        refine t_v (s := Instr.loadAt 50 (.pointer (some (⟨w_11.heap.size, 0, none⟩ : Addr)))) hp11 hS 11 t35_19 rfl (wanted_some rfl rfl rfl rfl) rfl rfl (by kernel_rfl) (by kernel_rfl) (fun _ hw => (Sw.fact (List.Mem.head _) rfl hw)) fun hS => ?_
        refine t_kw hp11 hS 12 (.slice b0_1.a b0_1.n b0_1.c : Value) rfl (wanted_some rfl rfl rfl rfl) rfl rfl (by kernel_rfl) (fun _ _ => by kernel_rfl) fun hS => ?_
        refine t_call 13 (by kernel_rfl) rfl (wanted_some rfl rfl rfl rfl) rfl rfl (by kernel_rfl) (h.mono ?_)
        rintro _ w_21 ⟨t37_20, rfl, hx16, h⟩
        refine ⟨_, rfl, (SF_on hx16 SF_nil), fun hS => ?_⟩
        obtain ⟨t38_22, hx17, h⟩ := h
        refine t_add ⟨14, [], fun wx => (do eqGuard .eql 50 (Operand.tmp 35) (Operand.tmp 37) t35_19 t37_20; binOp .eql 50 t35_19 t37_20).run Try.prog wx = .ok (.bool t38_22 : Value) wx⟩ ?_
        replace hS := SF_on (x := ⟨14, [], fun wx => (do eqGuard .eql 50 (Operand.tmp 35) (Operand.tmp 37) t35_19 t37_20; binOp .eql 50 t35_19 t37_20).run Try.prog wx = .ok (.bool t38_22 : Value) wx⟩) hx17 hS
        refine t_v (s := do eqGuard .eql 50 (Operand.tmp 35) (Operand.tmp 37) t35_19 t37_20; binOp .eql 50 t35_19 t37_20) hp11 hS 14 (.bool t38_22 : Value) rfl (wanted_some rfl rfl rfl rfl) rfl rfl (by kernel_rfl) (by kernel_rfl) (fun _ hw => (Sw.fact (List.Mem.head _) rfl hw)) fun hS => ?_
        refine t_kw hp11 hS 15 (.bool t38_22 : Value) rfl (wanted_none rfl) rfl rfl (by kernel_rfl) (fun _ _ => by kernel_rfl) fun hS => ?_
        refine t_kw hp11 hS 16 (.bool t38_22 : Value) rfl (wanted_none rfl) rfl rfl (by kernel_rfl) (fun _ _ => by kernel_rfl) fun hS => ?_
        refine t_done (by kernel_rfl) (hE11 _ _ ?_)
        exact y_then (hjK10 _ t38_22 w_21 rfl h)
      · replace h := h.2 (beq_eq_false_iff_ne.mp hb14)
        refine t_frame (upd_id (i := 34) (v := .bool false) rfl (congrArg Value.bool hb14)) ?_
        refine t_no hp11 hS 11 rfl rfl rfl rfl (.inl rfl) rfl rfl (by kernel_rfl) fun hS => ?_
        refine t_no hp11 hS 12 rfl rfl rfl rfl (.inl rfl) rfl rfl (by kernel_rfl) fun hS => ?_
        refine t_skip 13 (by kernel_rfl) rfl rfl rfl rfl (.inl rfl) rfl rfl SF_nil fun hS => ?_
        refine t_no hp11 hS 14 rfl rfl rfl rfl (.inl rfl) rfl rfl (by kernel_rfl) fun hS => ?_
        refine t_kw hp11 hS 15 (.bool false : Value) rfl (wanted_none rfl) rfl rfl (by kernel_rfl) (fun _ _ => by kernel_rfl) fun hS => ?_
        refine t_kw hp11 hS 16 (.bool false : Value) rfl (wanted_none rfl) rfl rfl (by kernel_rfl) (fun _ _ => by kernel_rfl) fun hS => ?_
        refine t_done (by kernel_rfl) (hE11 _ _ ?_)
        exact y_then (hjK10 _ false w_18 rfl h)
    · replace h := h.2 (hb13)
      refine t_frame (upd_id (i := 28) (v := .bool false) rfl (congrArg Value.bool hb13)) ?_
      refine t_no hp11 hS 5 rfl rfl rfl rfl (.inl rfl) rfl rfl (by kernel_rfl) fun hS => ?_
      refine t_no hp11 hS 6 rfl rfl rfl rfl (.inl rfl) rfl rfl (by kernel_rfl) fun hS => ?_
      refine t_skip 7 (by kernel_rfl) rfl rfl rfl rfl (.inl rfl) rfl rfl SF_nil fun hS => ?_
      refine t_no hp11 hS 8 rfl rfl rfl rfl (.inl rfl) rfl rfl (by kernel_rfl) fun hS => ?_
      refine t_kw hp11 hS 9 (.bool false : Value) rfl (wanted_none rfl) rfl rfl (by kernel_rfl) (fun _ _ => by kernel_rfl) fun hS => ?_
      refine t_kw hp11 hS 10 (.bool false : Value) rfl (wanted_none rfl) rfl rfl (by kernel_rfl) (fun _ _ => by kernel_rfl) fun hS => ?_
      refine t_no hp11 hS 11 rfl rfl rfl rfl (.inl rfl) rfl rfl (by kernel_rfl) fun hS => ?_
      refine t_no hp11 hS 12 rfl rfl rfl rfl (.inl rfl) rfl rfl (by kernel_rfl) fun hS => ?_
      refine t_skip 13 (by kernel_rfl) rfl rfl rfl rfl (.inl rfl) rfl rfl SF_nil fun hS => ?_
      refine t_no hp11 hS 14 rfl rfl rfl rfl (.inl rfl) rfl rfl (by kernel_rfl) fun hS => ?_
      refine t_kw hp11 hS 15 (.bool false : Value) rfl (wanted_none rfl) rfl rfl (by kernel_rfl) (fun _ _ => by kernel_rfl) fun hS => ?_
      refine t_kw hp11 hS 16 (.bool false : Value) rfl (wanted_none rfl) rfl rfl (by kernel_rfl) (fun _ _ => by kernel_rfl) fun hS => ?_
      refine t_done (by kernel_rfl) (hE11 _ _ ?_)
      exact y_then (hjK10 _ false w_16 rfl h)
  · replace h := h.2 (hb12)
    refine t_frame (upd_id (i := 25) (v := .bool false) rfl (congrArg Value.bool hb12)) ?_
    refine t_no hp11 hS 2 rfl rfl rfl rfl (.inl rfl) rfl rfl (by kernel_rfl) fun hS => ?_
    refine t_kw hp11 hS 3 (.bool false : Value) rfl (wanted_none rfl) rfl rfl (by kernel_rfl) (fun _ _ => by kernel_rfl) fun hS => ?_
    refine t_kw hp11 hS 4 (.bool false : Value) rfl (wanted_none rfl) rfl rfl (by kernel_rfl) (fun _ _ => by kernel_rfl) fun hS => ?_
    refine t_no hp11 hS 5 rfl rfl rfl rfl (.inl rfl) rfl rfl (by kernel_rfl) fun hS => ?_
    refine t_no hp11 hS 6 rfl rfl rfl rfl (.inl rfl) rfl rfl (by kernel_rfl) fun hS => ?_
    refine t_skip 7 (by kernel_rfl) rfl rfl rfl rfl (.inl rfl) rfl rfl SF_nil fun hS => ?_
    refine t_no hp11 hS 8 rfl rfl rfl rfl (.inl rfl) rfl rfl (by kernel_rfl) fun hS => ?_
    refine t_kw hp11 hS 9 (.bool false : Value) rfl (wanted_none rfl) rfl rfl (by kernel_rfl) (fun _ _ => by kernel_rfl) fun hS => ?_
    refine t_kw hp11 hS 10 (.bool false : Value) rfl (wanted_none rfl) rfl rfl (by kernel_rfl) (fun _ _ => by kernel_rfl) fun hS => ?_
    refine t_no hp11 hS 11 rfl rfl rfl rfl (.inl rfl) rfl rfl (by kernel_rfl) fun hS => ?_
    refine t_no hp11 hS 12 rfl rfl rfl rfl (.inl rfl) rfl rfl (by kernel_rfl) fun hS => ?_
    refine t_skip 13 (by kernel_rfl) rfl rfl rfl rfl (.inl rfl) rfl rfl SF_nil fun hS => ?_
    refine t_no hp11 hS 14 rfl rfl rfl rfl (.inl rfl) rfl rfl (by kernel_rfl) fun hS => ?_
    refine t_kw hp11 hS 15 (.bool false : Value) rfl (wanted_none rfl) rfl rfl (by kernel_rfl) (fun _ _ => by kernel_rfl) fun hS => ?_
    refine t_kw hp11 hS 16 (.bool false : Value) rfl (wanted_none rfl) rfl rfl (by kernel_rfl) (fun _ _ => by kernel_rfl) fun hS => ?_
    refine t_done (by kernel_rfl) (hE11 _ _ ?_)
    exact y_then (hjK10 _ false w_16 rfl h)

end Go.Proofs.Ytjgijifankaglaa
