/- Printed by gen.py (own program, wip/): for each Go function a predicate transformer and its soundness. -/
import Derived.Test.YtjgijifankaglaaProg
import Derived.Test.YtjgijifankaglaaST
namespace Go.Proofs.Ytjgijifankaglaa
open Go Go.RowKit Go.Proofs.Ytjgijifankaglaa.SX
set_option linter.unusedVariables false

def F63_l1 (l0_1 : Sl) (K : Bool → World → Prop) (next5 : (Int) → World → Prop) : (Int) → World → Prop := fun (i3_2) w_3 =>
  ((i3_2 < ((l0_1.n : Int)) →
  (0 : Int) ≤ (IntKind.i64.wrap (i3_2 - 1)) ∧ (IntKind.i64.wrap (i3_2 - 1)) < (l0_1.n : Int) ∧ ∃ (a_4 : Addr), l0_1.a = some a_4 ∧
  ∃ (t14_5 : Int), w_3.cell? (a_4.add (Int.toNat (IntKind.i64.wrap (i3_2 - 1)))) = some (.int .u32 t14_5) ∧
  (0 : Int) ≤ i3_2 ∧ i3_2 < (l0_1.n : Int) ∧ ∃ (a_6 : Addr), l0_1.a = some a_6 ∧
  ∃ (t18_7 : Int), w_3.cell? (a_6.add (Int.toNat i3_2)) = some (.int .u32 t18_7) ∧
  ∀ (w_8 : World), (∃ m, w_8 = w_3.drewN m) →
  ((t14_5 ≥ t18_7 →
  K false w_8) ∧
  (¬ (t14_5 ≥ t18_7) →
  next5 (IntKind.i64.wrap (i3_2 + 1)) w_8))) ∧
  (¬ (i3_2 < ((l0_1.n : Int))) →
  K true w_3))
/-- turnkey/post.rises[uint32] -/
def F63 (l0_1 : Sl) (K : Bool → World → Prop) (w : World) : Prop :=
  kLoop (F63_l1 l0_1 K) (1) w
set_option maxHeartbeats 4000000 in
set_option maxRecDepth 20000 in
theorem F63_sound (l0_1 : Sl) (K : Bool → World → Prop) (w : World) (h : F63 l0_1 K w) :
    Calls Try.prog 63 #[.slice l0_1.a l0_1.n l0_1.c] w (fun e w1 => ∃ (r0 : Bool), e = .returned (.bool r0 : Value) ∧ K r0 w1) := by
  unfold F63 at h
  refine y_enter (n := 20) (args := [.slice l0_1.a l0_1.n l0_1.c]) Try.func63 rfl rfl rfl fun Q0 hQ0 => ?_
  refine y_seq fun K1 hK1 => ?_
  refine y_region ?_
  refine y_k (.bool false : Value) w rfl rfl rfl (by kernel_rfl) ?_
  refine y_nil ?_
  refine y_then (hK1 _ _ ?_)
  refine y_seq fun K2 hK2 => ?_
  refine y_seq fun K3 hK3 => ?_
  refine y_region ?_
  refine y_k (.int .i64 1 : Value) w rfl rfl rfl (by kernel_rfl) ?_
  refine y_nil ?_
  refine y_then (hK3 _ _ ?_)
  refine y_block ?_
  refine y_loop (S := Int) (fun s j => match s with | (i3_2) => upd (upd (j) 0 (.slice l0_1.a l0_1.n l0_1.c : Value)) 3 (.int .i64 i3_2 : Value)) (1) ?_ h ?_
  · dsimp only
    refine upd_id ?_ rfl
    refine upd_id ?_ rfl
    rfl
  rintro KN6 next5 hN6 i3_2 j w_3 h
  unfold F63_l1 at h
  refine y_seq fun K7 hK7 => ?_
  refine y_seq fun K8 hK8 => ?_
  refine y_region ?_
  refine y_k (.int .i64 i3_2 : Value) w_3 rfl rfl rfl (by kernel_rfl) ?_
  refine y_k (.slice l0_1.a l0_1.n l0_1.c : Value) w_3 rfl rfl rfl (by kernel_rfl) ?_
  refine y_k (.int .i64 ((l0_1.n : Int)) : Value) w_3 rfl rfl rfl (by kernel_rfl) ?_
  refine y_k (.bool (decide (i3_2 < ((l0_1.n : Int)))) : Value) w_3 rfl rfl rfl (by kernel_rfl) ?_
  refine y_nil ?_
  refine y_then (hK8 _ _ ?_)
  refine y_cond (decide (i3_2 < ((l0_1.n : Int)))) rfl rfl (fun hb21 => ?_) (fun hb21 => ?_)
  · replace h := h.1 (of_decide_eq_true hb21)
    refine y_skip ?_
    refine y_then (hK7 _ _ ?_)
    refine y_seq fun K9 hK9 => ?_
    refine y_block ?_
    refine y_seq fun K11 hK11 => ?_
    refine q_region (by kernel_rfl) (by kernel_rfl) fun Qq12 hQq12 => ?_
    refine q_k (.slice l0_1.a l0_1.n l0_1.c : Value) rfl rfl rfl (fun _ => by kernel_rfl) ?_
    refine q_k (.int .i64 i3_2 : Value) rfl rfl rfl (fun _ => by kernel_rfl) ?_
    refine q_k (.int .i64 (IntKind.i64.wrap (i3_2 - 1)) : Value) rfl rfl rfl (fun _ => by kernel_rfl) ?_
    obtain ⟨hx13a, hx13b, a_4, hx13, h⟩ := h
    refine q_v (v := (.pointer (some (a_4.add (Int.toNat (IntKind.i64.wrap (i3_2 - 1))))) : Value)) (s := Instr.indexAt 22 (.slice l0_1.a l0_1.n l0_1.c : Value) (.int .i64 (IntKind.i64.wrap (i3_2 - 1)) : Value)) rfl rfl rfl (by kernel_rfl) (fun _ => run_ixs1 (el := 23) (by kernel_rfl) (by kernel_rfl) hx13 hx13a hx13b) ?_
    obtain ⟨t14_5, hx14, h⟩ := h
    refine q_v (v := (.int .u32 t14_5 : Value)) (s := Instr.loadAt 23 (.pointer (some (a_4.add (Int.toNat (IntKind.i64.wrap (i3_2 - 1))))))) rfl rfl rfl (by kernel_rfl) (fun _ => rn_load (by kernel_rfl) hx14) ?_
    refine q_k (.slice l0_1.a l0_1.n l0_1.c : Value) rfl rfl rfl (fun _ => by kernel_rfl) ?_
    refine q_k (.int .i64 i3_2 : Value) rfl rfl rfl (fun _ => by kernel_rfl) ?_
    obtain ⟨hx15a, hx15b, a_6, hx15, h⟩ := h
    refine q_v (v := (.pointer (some (a_6.add (Int.toNat i3_2))) : Value)) (s := Instr.indexAt 22 (.slice l0_1.a l0_1.n l0_1.c : Value) (.int .i64 i3_2 : Value)) rfl rfl rfl (by kernel_rfl) (fun _ => run_ixs1 (el := 23) (by kernel_rfl) (by kernel_rfl) hx15 hx15a hx15b) ?_
    obtain ⟨t18_7, hx16, h⟩ := h
    refine q_v (v := (.int .u32 t18_7 : Value)) (s := Instr.loadAt 23 (.pointer (some (a_6.add (Int.toNat i3_2))))) rfl rfl rfl (by kernel_rfl) (fun _ => rn_load (by kernel_rfl) hx16) ?_
    refine q_k (.bool (decide (t14_5 ≥ t18_7)) : Value) rfl rfl rfl (fun _ => by kernel_rfl) ?_
    refine q_nil (hQq12 _ fun m19 => ?_)
    replace h := h _ ⟨m19, rfl⟩
    generalize w_3.drewN m19 = w_8 at h ⊢
    refine y_then (hK11 _ _ ?_)
    refine y_cond (decide (t14_5 ≥ t18_7)) rfl rfl (fun hb18 => ?_) (fun hb18 => ?_)
    · replace h := h.1 (of_decide_eq_true hb18)
      refine y_seq fun K17 hK17 => ?_
      refine y_region ?_
      refine y_k (.bool false : Value) w_8 rfl rfl rfl (by kernel_rfl) ?_
      refine y_nil ?_
      refine y_then (hK17 _ _ ?_)
      refine y_ret ?_
      repeat (first | refine e_then_r ?_ | refine e_block_r ?_)
      exact (hQ0 _ _ _ (res1 (v := (.bool false : Value)) rfl rfl rfl) ⟨_, rfl, h⟩).1
    · replace h := h.2 (of_decide_eq_false hb18)
      refine y_skip ?_
      refine e_block_n ?_
      refine y_then (hK9 _ _ ?_)
      refine y_region ?_
      refine y_k (.int .i64 i3_2 : Value) w_8 rfl rfl rfl (by kernel_rfl) ?_
      refine y_k (.int .i64 (IntKind.i64.wrap (i3_2 + 1)) : Value) w_8 rfl rfl rfl (by kernel_rfl) ?_
      refine y_k (.int .i64 (IntKind.i64.wrap (i3_2 + 1)) : Value) w_8 rfl rfl rfl (by kernel_rfl) ?_
      refine y_nil ?_
      refine y_then (hN6 (IntKind.i64.wrap (i3_2 + 1)) _ _ h ?_)
      dsimp only
      refine upd_id ?_ rfl
      refine upd_id ?_ rfl
      rfl
  · replace h := h.2 (of_decide_eq_false hb21)
    refine y_exit ?_
    repeat (first | refine e_then_x ?_ | refine e_block_y rfl ?_)
    refine e_block_x ?_
    refine y_then (hK2 _ _ ?_)
    refine y_seq fun K20 hK20 => ?_
    refine y_region ?_
    refine y_k (.bool true : Value) w_3 rfl rfl rfl (by kernel_rfl) ?_
    refine y_nil ?_
    refine y_then (hK20 _ _ ?_)
    refine y_ret ?_
    repeat (first | refine e_then_r ?_ | refine e_block_r ?_)
    exact (hQ0 _ _ _ (res1 (v := (.bool true : Value)) rfl rfl rfl) ⟨_, rfl, h⟩).1

def F62_j2 (a0_10 : Sl) (b1_11 : Sl) (next10 : (Sl × Sl × Sl) → World → Prop) (out11_20 : Sl) (w_21 : World) : Prop :=
  ∃ (t65_22 : Sl), (Instr.sliceAt 22 (.slice a0_10.a a0_10.n a0_10.c : Value) (some (.int .i64 1 : Value)) none none).run Try.prog w_21 = .ok (.slice t65_22.a t65_22.n t65_22.c : Value) w_21 ∧
  next10 (t65_22, b1_11, out11_20) w_21
def F62_j3 (a0_10 : Sl) (b1_11 : Sl) (next10 : (Sl × Sl × Sl) → World → Prop) (out11_33 : Sl) (w_34 : World) : Prop :=
  ∃ (t65_35 : Sl), (Instr.sliceAt 22 (.slice a0_10.a a0_10.n a0_10.c : Value) (some (.int .i64 1 : Value)) none none).run Try.prog w_34 = .ok (.slice t65_35.a t65_35.n t65_35.c : Value) w_34 ∧
  next10 (t65_35, b1_11, out11_33) w_34
def F62_j4 (a0_10 : Sl) (b1_11 : Sl) (next10 : (Sl × Sl × Sl) → World → Prop) (out11_42 : Sl) (w_43 : World) : Prop :=
  ∃ (t87_44 : Sl), (Instr.sliceAt 22 (.slice b1_11.a b1_11.n b1_11.c : Value) (some (.int .i64 1 : Value)) none none).run Try.prog w_43 = .ok (.slice t87_44.a t87_44.n t87_44.c : Value) w_43 ∧
  next10 (a0_10, t87_44, out11_42) w_43
def F62_j5 (a0_10 : Sl) (b1_11 : Sl) (next10 : (Sl × Sl × Sl) → World → Prop) (out11_55 : Sl) (w_56 : World) : Prop :=
  ∃ (t87_57 : Sl), (Instr.sliceAt 22 (.slice b1_11.a b1_11.n b1_11.c : Value) (some (.int .i64 1 : Value)) none none).run Try.prog w_56 = .ok (.slice t87_57.a t87_57.n t87_57.c : Value) w_56 ∧
  next10 (a0_10, t87_57, out11_55) w_56
def F62_j6 (a0_10 : Sl) (b1_11 : Sl) (next10 : (Sl × Sl × Sl) → World → Prop) (out11_63 : Sl) (w_64 : World) : Prop :=
  ∃ (t36_65 : Sl), (∀ m, (Instr.sliceAt 22 (.slice a0_10.a a0_10.n a0_10.c : Value) (some (.int .i64 1 : Value)) none none).run Try.prog (w_64.drewN m) = .ok (.slice t36_65.a t36_65.n t36_65.c : Value) (w_64.drewN m)) ∧
  ∃ (t38_66 : Sl), (∀ m, (Instr.sliceAt 22 (.slice b1_11.a b1_11.n b1_11.c : Value) (some (.int .i64 1 : Value)) none none).run Try.prog (w_64.drewN m) = .ok (.slice t38_66.a t38_66.n t38_66.c : Value) (w_64.drewN m)) ∧
  ∀ (w_67 : World), (∃ m, w_67 = w_64.drewN m) →
  next10 (t36_65, t38_66, out11_63) w_67
def F62_j7 (a0_10 : Sl) (b1_11 : Sl) (next10 : (Sl × Sl × Sl) → World → Prop) (out11_75 : Sl) (w_76 : World) : Prop :=
  ∃ (t87_77 : Sl), (Instr.sliceAt 22 (.slice b1_11.a b1_11.n b1_11.c : Value) (some (.int .i64 1 : Value)) none none).run Try.prog w_76 = .ok (.slice t87_77.a t87_77.n t87_77.c : Value) w_76 ∧
  next10 (a0_10, t87_77, out11_75) w_76
def F62_j8 (a0_10 : Sl) (b1_11 : Sl) (next10 : (Sl × Sl × Sl) → World → Prop) (out11_88 : Sl) (w_89 : World) : Prop :=
  ∃ (t87_90 : Sl), (Instr.sliceAt 22 (.slice b1_11.a b1_11.n b1_11.c : Value) (some (.int .i64 1 : Value)) none none).run Try.prog w_89 = .ok (.slice t87_90.a t87_90.n t87_90.c : Value) w_89 ∧
  next10 (a0_10, t87_90, out11_88) w_89
def F62_j9 (a0_10 : Sl) (b1_11 : Sl) (next10 : (Sl × Sl × Sl) → World → Prop) (out11_96 : Sl) (w_97 : World) : Prop :=
  ∃ (t36_98 : Sl), (∀ m, (Instr.sliceAt 22 (.slice a0_10.a a0_10.n a0_10.c : Value) (some (.int .i64 1 : Value)) none none).run Try.prog (w_97.drewN m) = .ok (.slice t36_98.a t36_98.n t36_98.c : Value) (w_97.drewN m)) ∧
  ∃ (t38_99 : Sl), (∀ m, (Instr.sliceAt 22 (.slice b1_11.a b1_11.n b1_11.c : Value) (some (.int .i64 1 : Value)) none none).run Try.prog (w_97.drewN m) = .ok (.slice t38_99.a t38_99.n t38_99.c : Value) (w_97.drewN m)) ∧
  ∀ (w_100 : World), (∃ m, w_100 = w_97.drewN m) →
  next10 (t36_98, t38_99, out11_96) w_100
def F62_j10 (a0_10 : Sl) (b1_11 : Sl) (next10 : (Sl × Sl × Sl) → World → Prop) (out11_107 : Sl) (w_108 : World) : Prop :=
  ∃ (t65_109 : Sl), (Instr.sliceAt 22 (.slice a0_10.a a0_10.n a0_10.c : Value) (some (.int .i64 1 : Value)) none none).run Try.prog w_108 = .ok (.slice t65_109.a t65_109.n t65_109.c : Value) w_108 ∧
  next10 (t65_109, b1_11, out11_107) w_108
def F62_j11 (a0_10 : Sl) (b1_11 : Sl) (next10 : (Sl × Sl × Sl) → World → Prop) (out11_120 : Sl) (w_121 : World) : Prop :=
  ∃ (t65_122 : Sl), (Instr.sliceAt 22 (.slice a0_10.a a0_10.n a0_10.c : Value) (some (.int .i64 1 : Value)) none none).run Try.prog w_121 = .ok (.slice t65_122.a t65_122.n t65_122.c : Value) w_121 ∧
  next10 (t65_122, b1_11, out11_120) w_121
def F62_j12 (a0_10 : Sl) (b1_11 : Sl) (next10 : (Sl × Sl × Sl) → World → Prop) (out11_129 : Sl) (w_130 : World) : Prop :=
  ∃ (t87_131 : Sl), (Instr.sliceAt 22 (.slice b1_11.a b1_11.n b1_11.c : Value) (some (.int .i64 1 : Value)) none none).run Try.prog w_130 = .ok (.slice t87_131.a t87_131.n t87_131.c : Value) w_130 ∧
  next10 (a0_10, t87_131, out11_129) w_130
def F62_j13 (a0_10 : Sl) (b1_11 : Sl) (next10 : (Sl × Sl × Sl) → World → Prop) (out11_142 : Sl) (w_143 : World) : Prop :=
  ∃ (t87_144 : Sl), (Instr.sliceAt 22 (.slice b1_11.a b1_11.n b1_11.c : Value) (some (.int .i64 1 : Value)) none none).run Try.prog w_143 = .ok (.slice t87_144.a t87_144.n t87_144.c : Value) w_143 ∧
  next10 (a0_10, t87_144, out11_142) w_143
def F62_j14 (a0_10 : Sl) (b1_11 : Sl) (next10 : (Sl × Sl × Sl) → World → Prop) (out11_150 : Sl) (w_151 : World) : Prop :=
  ∃ (t36_152 : Sl), (∀ m, (Instr.sliceAt 22 (.slice a0_10.a a0_10.n a0_10.c : Value) (some (.int .i64 1 : Value)) none none).run Try.prog (w_151.drewN m) = .ok (.slice t36_152.a t36_152.n t36_152.c : Value) (w_151.drewN m)) ∧
  ∃ (t38_153 : Sl), (∀ m, (Instr.sliceAt 22 (.slice b1_11.a b1_11.n b1_11.c : Value) (some (.int .i64 1 : Value)) none none).run Try.prog (w_151.drewN m) = .ok (.slice t38_153.a t38_153.n t38_153.c : Value) (w_151.drewN m)) ∧
  ∀ (w_154 : World), (∃ m, w_154 = w_151.drewN m) →
  next10 (t36_152, t38_153, out11_150) w_154
def F62_j15 (a0_10 : Sl) (b1_11 : Sl) (next10 : (Sl × Sl × Sl) → World → Prop) (out11_162 : Sl) (w_163 : World) : Prop :=
  ∃ (t87_164 : Sl), (Instr.sliceAt 22 (.slice b1_11.a b1_11.n b1_11.c : Value) (some (.int .i64 1 : Value)) none none).run Try.prog w_163 = .ok (.slice t87_164.a t87_164.n t87_164.c : Value) w_163 ∧
  next10 (a0_10, t87_164, out11_162) w_163
def F62_j16 (a0_10 : Sl) (b1_11 : Sl) (next10 : (Sl × Sl × Sl) → World → Prop) (out11_175 : Sl) (w_176 : World) : Prop :=
  ∃ (t87_177 : Sl), (Instr.sliceAt 22 (.slice b1_11.a b1_11.n b1_11.c : Value) (some (.int .i64 1 : Value)) none none).run Try.prog w_176 = .ok (.slice t87_177.a t87_177.n t87_177.c : Value) w_176 ∧
  next10 (a0_10, t87_177, out11_175) w_176
def F62_j17 (a0_10 : Sl) (b1_11 : Sl) (next10 : (Sl × Sl × Sl) → World → Prop) (out11_183 : Sl) (w_184 : World) : Prop :=
  ∃ (t36_185 : Sl), (∀ m, (Instr.sliceAt 22 (.slice a0_10.a a0_10.n a0_10.c : Value) (some (.int .i64 1 : Value)) none none).run Try.prog (w_184.drewN m) = .ok (.slice t36_185.a t36_185.n t36_185.c : Value) (w_184.drewN m)) ∧
  ∃ (t38_186 : Sl), (∀ m, (Instr.sliceAt 22 (.slice b1_11.a b1_11.n b1_11.c : Value) (some (.int .i64 1 : Value)) none none).run Try.prog (w_184.drewN m) = .ok (.slice t38_186.a t38_186.n t38_186.c : Value) (w_184.drewN m)) ∧
  ∀ (w_187 : World), (∃ m, w_187 = w_184.drewN m) →
  next10 (t36_185, t38_186, out11_183) w_187
def F62_l1 (one2_3 : Bool) (both3_4 : Bool) (two4_5 : Bool) (K : Sl → World → Prop) (next10 : (Sl × Sl × Sl) → World → Prop) : (Sl × Sl × Sl) → World → Prop := fun (a0_10, b1_11, out11_12) w_13 =>
  ((((a0_10.n : Int)) > 0 →
  (((((b1_11.n : Int))) = 0 →
  ∀ (w_14 : World), (∃ m, w_14 = w_13.drewN m) →
  ((one2_3 = true →
  (0 : Int) ≤ 0 ∧ 0 < (a0_10.n : Int) ∧ ∃ (a_15 : Addr), a0_10.a = some a_15 ∧
  ∃ (t61_16 : Int), w_14.cell? (a_15.add (Int.toNat 0)) = some (.int .u32 t61_16) ∧
  ∀ (w_17 : World), w_17 = w_14.alloc (.cells #[.int .u32 t61_16] 23) →
  ∃ (t63_18 : Sl), ∃ (w_19 : World), (Builtin.append_ #[22, 22] 22 #[.slice out11_12.a out11_12.n out11_12.c, .slice (some ⟨w_14.heap.size, 0, none⟩) 1 1]).run Try.prog w_17 = .ok (.slice t63_18.a t63_18.n t63_18.c : Value) w_19 ∧
  F62_j2 a0_10 b1_11 next10 t63_18 w_19) ∧
  (one2_3 = false →
  F62_j2 a0_10 b1_11 next10 out11_12 w_14))) ∧
  (¬ (((b1_11.n : Int))) = 0 →
  ((((a0_10.n : Int)) > 0 →
  (0 : Int) ≤ 0 ∧ 0 < (a0_10.n : Int) ∧ ∃ (a_23 : Addr), a0_10.a = some a_23 ∧
  ∃ (t50_24 : Int), w_13.cell? (a_23.add (Int.toNat 0)) = some (.int .u32 t50_24) ∧
  (0 : Int) ≤ 0 ∧ 0 < (b1_11.n : Int) ∧ ∃ (a_25 : Addr), b1_11.a = some a_25 ∧
  ∃ (t53_26 : Int), w_13.cell? (a_25.add (Int.toNat 0)) = some (.int .u32 t53_26) ∧
  ∀ (w_27 : World), (∃ m, w_27 = w_13.drewN m) →
  ((t50_24 < t53_26 →
  ((one2_3 = true →
  (0 : Int) ≤ 0 ∧ 0 < (a0_10.n : Int) ∧ ∃ (a_28 : Addr), a0_10.a = some a_28 ∧
  ∃ (t61_29 : Int), w_27.cell? (a_28.add (Int.toNat 0)) = some (.int .u32 t61_29) ∧
  ∀ (w_30 : World), w_30 = w_27.alloc (.cells #[.int .u32 t61_29] 23) →
  ∃ (t63_31 : Sl), ∃ (w_32 : World), (Builtin.append_ #[22, 22] 22 #[.slice out11_12.a out11_12.n out11_12.c, .slice (some ⟨w_27.heap.size, 0, none⟩) 1 1]).run Try.prog w_30 = .ok (.slice t63_31.a t63_31.n t63_31.c : Value) w_32 ∧
  F62_j3 a0_10 b1_11 next10 t63_31 w_32) ∧
  (one2_3 = false →
  F62_j3 a0_10 b1_11 next10 out11_12 w_27))) ∧
  (¬ (t50_24 < t53_26) →
  (((((a0_10.n : Int))) = 0 →
  ∀ (w_36 : World), (∃ m, w_36 = w_27.drewN m) →
  ((two4_5 = true →
  (0 : Int) ≤ 0 ∧ 0 < (b1_11.n : Int) ∧ ∃ (a_37 : Addr), b1_11.a = some a_37 ∧
  ∃ (t83_38 : Int), w_36.cell? (a_37.add (Int.toNat 0)) = some (.int .u32 t83_38) ∧
  ∀ (w_39 : World), w_39 = w_36.alloc (.cells #[.int .u32 t83_38] 23) →
  ∃ (t85_40 : Sl), ∃ (w_41 : World), (Builtin.append_ #[22, 22] 22 #[.slice out11_12.a out11_12.n out11_12.c, .slice (some ⟨w_36.heap.size, 0, none⟩) 1 1]).run Try.prog w_39 = .ok (.slice t85_40.a t85_40.n t85_40.c : Value) w_41 ∧
  F62_j4 a0_10 b1_11 next10 t85_40 w_41) ∧
  (two4_5 = false →
  F62_j4 a0_10 b1_11 next10 out11_12 w_36))) ∧
  (¬ (((a0_10.n : Int))) = 0 →
  (0 : Int) ≤ 0 ∧ 0 < (b1_11.n : Int) ∧ ∃ (a_45 : Addr), b1_11.a = some a_45 ∧
  ∃ (t73_46 : Int), w_27.cell? (a_45.add (Int.toNat 0)) = some (.int .u32 t73_46) ∧
  (0 : Int) ≤ 0 ∧ 0 < (a0_10.n : Int) ∧ ∃ (a_47 : Addr), a0_10.a = some a_47 ∧
  ∃ (t76_48 : Int), w_27.cell? (a_47.add (Int.toNat 0)) = some (.int .u32 t76_48) ∧
  ∀ (w_49 : World), (∃ m, w_49 = w_27.drewN m) →
  ((t73_46 < t76_48 →
  ((two4_5 = true →
  (0 : Int) ≤ 0 ∧ 0 < (b1_11.n : Int) ∧ ∃ (a_50 : Addr), b1_11.a = some a_50 ∧
  ∃ (t83_51 : Int), w_49.cell? (a_50.add (Int.toNat 0)) = some (.int .u32 t83_51) ∧
  ∀ (w_52 : World), w_52 = w_49.alloc (.cells #[.int .u32 t83_51] 23) →
  ∃ (t85_53 : Sl), ∃ (w_54 : World), (Builtin.append_ #[22, 22] 22 #[.slice out11_12.a out11_12.n out11_12.c, .slice (some ⟨w_49.heap.size, 0, none⟩) 1 1]).run Try.prog w_52 = .ok (.slice t85_53.a t85_53.n t85_53.c : Value) w_54 ∧
  F62_j5 a0_10 b1_11 next10 t85_53 w_54) ∧
  (two4_5 = false →
  F62_j5 a0_10 b1_11 next10 out11_12 w_49))) ∧
  (¬ (t73_46 < t76_48) →
  ((both3_4 = true →
  (0 : Int) ≤ 0 ∧ 0 < (a0_10.n : Int) ∧ ∃ (a_58 : Addr), a0_10.a = some a_58 ∧
  ∃ (t32_59 : Int), w_49.cell? (a_58.add (Int.toNat 0)) = some (.int .u32 t32_59) ∧
  ∀ (w_60 : World), w_60 = w_49.alloc (.cells #[.int .u32 t32_59] 23) →
  ∃ (t34_61 : Sl), ∃ (w_62 : World), (Builtin.append_ #[22, 22] 22 #[.slice out11_12.a out11_12.n out11_12.c, .slice (some ⟨w_49.heap.size, 0, none⟩) 1 1]).run Try.prog w_60 = .ok (.slice t34_61.a t34_61.n t34_61.c : Value) w_62 ∧
  F62_j6 a0_10 b1_11 next10 t34_61 w_62) ∧
  (both3_4 = false →
  F62_j6 a0_10 b1_11 next10 out11_12 w_49))))))))) ∧
  (¬ (((a0_10.n : Int)) > 0) →
  ∀ (w_68 : World), (∃ m, w_68 = w_13.drewN m) →
  (((((a0_10.n : Int))) = 0 →
  ∀ (w_69 : World), (∃ m, w_69 = w_68.drewN m) →
  ((two4_5 = true →
  (0 : Int) ≤ 0 ∧ 0 < (b1_11.n : Int) ∧ ∃ (a_70 : Addr), b1_11.a = some a_70 ∧
  ∃ (t83_71 : Int), w_69.cell? (a_70.add (Int.toNat 0)) = some (.int .u32 t83_71) ∧
  ∀ (w_72 : World), w_72 = w_69.alloc (.cells #[.int .u32 t83_71] 23) →
  ∃ (t85_73 : Sl), ∃ (w_74 : World), (Builtin.append_ #[22, 22] 22 #[.slice out11_12.a out11_12.n out11_12.c, .slice (some ⟨w_69.heap.size, 0, none⟩) 1 1]).run Try.prog w_72 = .ok (.slice t85_73.a t85_73.n t85_73.c : Value) w_74 ∧
  F62_j7 a0_10 b1_11 next10 t85_73 w_74) ∧
  (two4_5 = false →
  F62_j7 a0_10 b1_11 next10 out11_12 w_69))) ∧
  (¬ (((a0_10.n : Int))) = 0 →
  (0 : Int) ≤ 0 ∧ 0 < (b1_11.n : Int) ∧ ∃ (a_78 : Addr), b1_11.a = some a_78 ∧
  ∃ (t73_79 : Int), w_68.cell? (a_78.add (Int.toNat 0)) = some (.int .u32 t73_79) ∧
  (0 : Int) ≤ 0 ∧ 0 < (a0_10.n : Int) ∧ ∃ (a_80 : Addr), a0_10.a = some a_80 ∧
  ∃ (t76_81 : Int), w_68.cell? (a_80.add (Int.toNat 0)) = some (.int .u32 t76_81) ∧
  ∀ (w_82 : World), (∃ m, w_82 = w_68.drewN m) →
  ((t73_79 < t76_81 →
  ((two4_5 = true →
  (0 : Int) ≤ 0 ∧ 0 < (b1_11.n : Int) ∧ ∃ (a_83 : Addr), b1_11.a = some a_83 ∧
  ∃ (t83_84 : Int), w_82.cell? (a_83.add (Int.toNat 0)) = some (.int .u32 t83_84) ∧
  ∀ (w_85 : World), w_85 = w_82.alloc (.cells #[.int .u32 t83_84] 23) →
  ∃ (t85_86 : Sl), ∃ (w_87 : World), (Builtin.append_ #[22, 22] 22 #[.slice out11_12.a out11_12.n out11_12.c, .slice (some ⟨w_82.heap.size, 0, none⟩) 1 1]).run Try.prog w_85 = .ok (.slice t85_86.a t85_86.n t85_86.c : Value) w_87 ∧
  F62_j8 a0_10 b1_11 next10 t85_86 w_87) ∧
  (two4_5 = false →
  F62_j8 a0_10 b1_11 next10 out11_12 w_82))) ∧
  (¬ (t73_79 < t76_81) →
  ((both3_4 = true →
  (0 : Int) ≤ 0 ∧ 0 < (a0_10.n : Int) ∧ ∃ (a_91 : Addr), a0_10.a = some a_91 ∧
  ∃ (t32_92 : Int), w_82.cell? (a_91.add (Int.toNat 0)) = some (.int .u32 t32_92) ∧
  ∀ (w_93 : World), w_93 = w_82.alloc (.cells #[.int .u32 t32_92] 23) →
  ∃ (t34_94 : Sl), ∃ (w_95 : World), (Builtin.append_ #[22, 22] 22 #[.slice out11_12.a out11_12.n out11_12.c, .slice (some ⟨w_82.heap.size, 0, none⟩) 1 1]).run Try.prog w_93 = .ok (.slice t34_94.a t34_94.n t34_94.c : Value) w_95 ∧
  F62_j9 a0_10 b1_11 next10 t34_94 w_95) ∧
  (both3_4 = false →
  F62_j9 a0_10 b1_11 next10 out11_12 w_82))))))))))) ∧
  (¬ (((a0_10.n : Int)) > 0) →
  ((((b1_11.n : Int)) > 0 →
  (((((b1_11.n : Int))) = 0 →
  ∀ (w_101 : World), (∃ m, w_101 = w_13.drewN m) →
  ((one2_3 = true →
  (0 : Int) ≤ 0 ∧ 0 < (a0_10.n : Int) ∧ ∃ (a_102 : Addr), a0_10.a = some a_102 ∧
  ∃ (t61_103 : Int), w_101.cell? (a_102.add (Int.toNat 0)) = some (.int .u32 t61_103) ∧
  ∀ (w_104 : World), w_104 = w_101.alloc (.cells #[.int .u32 t61_103] 23) →
  ∃ (t63_105 : Sl), ∃ (w_106 : World), (Builtin.append_ #[22, 22] 22 #[.slice out11_12.a out11_12.n out11_12.c, .slice (some ⟨w_101.heap.size, 0, none⟩) 1 1]).run Try.prog w_104 = .ok (.slice t63_105.a t63_105.n t63_105.c : Value) w_106 ∧
  F62_j10 a0_10 b1_11 next10 t63_105 w_106) ∧
  (one2_3 = false →
  F62_j10 a0_10 b1_11 next10 out11_12 w_101))) ∧
  (¬ (((b1_11.n : Int))) = 0 →
  ((((a0_10.n : Int)) > 0 →
  (0 : Int) ≤ 0 ∧ 0 < (a0_10.n : Int) ∧ ∃ (a_110 : Addr), a0_10.a = some a_110 ∧
  ∃ (t50_111 : Int), w_13.cell? (a_110.add (Int.toNat 0)) = some (.int .u32 t50_111) ∧
  (0 : Int) ≤ 0 ∧ 0 < (b1_11.n : Int) ∧ ∃ (a_112 : Addr), b1_11.a = some a_112 ∧
  ∃ (t53_113 : Int), w_13.cell? (a_112.add (Int.toNat 0)) = some (.int .u32 t53_113) ∧
  ∀ (w_114 : World), (∃ m, w_114 = w_13.drewN m) →
  ((t50_111 < t53_113 →
  ((one2_3 = true →
  (0 : Int) ≤ 0 ∧ 0 < (a0_10.n : Int) ∧ ∃ (a_115 : Addr), a0_10.a = some a_115 ∧
  ∃ (t61_116 : Int), w_114.cell? (a_115.add (Int.toNat 0)) = some (.int .u32 t61_116) ∧
  ∀ (w_117 : World), w_117 = w_114.alloc (.cells #[.int .u32 t61_116] 23) →
  ∃ (t63_118 : Sl), ∃ (w_119 : World), (Builtin.append_ #[22, 22] 22 #[.slice out11_12.a out11_12.n out11_12.c, .slice (some ⟨w_114.heap.size, 0, none⟩) 1 1]).run Try.prog w_117 = .ok (.slice t63_118.a t63_118.n t63_118.c : Value) w_119 ∧
  F62_j11 a0_10 b1_11 next10 t63_118 w_119) ∧
  (one2_3 = false →
  F62_j11 a0_10 b1_11 next10 out11_12 w_114))) ∧
  (¬ (t50_111 < t53_113) →
  (((((a0_10.n : Int))) = 0 →
  ∀ (w_123 : World), (∃ m, w_123 = w_114.drewN m) →
  ((two4_5 = true →
  (0 : Int) ≤ 0 ∧ 0 < (b1_11.n : Int) ∧ ∃ (a_124 : Addr), b1_11.a = some a_124 ∧
  ∃ (t83_125 : Int), w_123.cell? (a_124.add (Int.toNat 0)) = some (.int .u32 t83_125) ∧
  ∀ (w_126 : World), w_126 = w_123.alloc (.cells #[.int .u32 t83_125] 23) →
  ∃ (t85_127 : Sl), ∃ (w_128 : World), (Builtin.append_ #[22, 22] 22 #[.slice out11_12.a out11_12.n out11_12.c, .slice (some ⟨w_123.heap.size, 0, none⟩) 1 1]).run Try.prog w_126 = .ok (.slice t85_127.a t85_127.n t85_127.c : Value) w_128 ∧
  F62_j12 a0_10 b1_11 next10 t85_127 w_128) ∧
  (two4_5 = false →
  F62_j12 a0_10 b1_11 next10 out11_12 w_123))) ∧
  (¬ (((a0_10.n : Int))) = 0 →
  (0 : Int) ≤ 0 ∧ 0 < (b1_11.n : Int) ∧ ∃ (a_132 : Addr), b1_11.a = some a_132 ∧
  ∃ (t73_133 : Int), w_114.cell? (a_132.add (Int.toNat 0)) = some (.int .u32 t73_133) ∧
  (0 : Int) ≤ 0 ∧ 0 < (a0_10.n : Int) ∧ ∃ (a_134 : Addr), a0_10.a = some a_134 ∧
  ∃ (t76_135 : Int), w_114.cell? (a_134.add (Int.toNat 0)) = some (.int .u32 t76_135) ∧
  ∀ (w_136 : World), (∃ m, w_136 = w_114.drewN m) →
  ((t73_133 < t76_135 →
  ((two4_5 = true →
  (0 : Int) ≤ 0 ∧ 0 < (b1_11.n : Int) ∧ ∃ (a_137 : Addr), b1_11.a = some a_137 ∧
  ∃ (t83_138 : Int), w_136.cell? (a_137.add (Int.toNat 0)) = some (.int .u32 t83_138) ∧
  ∀ (w_139 : World), w_139 = w_136.alloc (.cells #[.int .u32 t83_138] 23) →
  ∃ (t85_140 : Sl), ∃ (w_141 : World), (Builtin.append_ #[22, 22] 22 #[.slice out11_12.a out11_12.n out11_12.c, .slice (some ⟨w_136.heap.size, 0, none⟩) 1 1]).run Try.prog w_139 = .ok (.slice t85_140.a t85_140.n t85_140.c : Value) w_141 ∧
  F62_j13 a0_10 b1_11 next10 t85_140 w_141) ∧
  (two4_5 = false →
  F62_j13 a0_10 b1_11 next10 out11_12 w_136))) ∧
  (¬ (t73_133 < t76_135) →
  ((both3_4 = true →
  (0 : Int) ≤ 0 ∧ 0 < (a0_10.n : Int) ∧ ∃ (a_145 : Addr), a0_10.a = some a_145 ∧
  ∃ (t32_146 : Int), w_136.cell? (a_145.add (Int.toNat 0)) = some (.int .u32 t32_146) ∧
  ∀ (w_147 : World), w_147 = w_136.alloc (.cells #[.int .u32 t32_146] 23) →
  ∃ (t34_148 : Sl), ∃ (w_149 : World), (Builtin.append_ #[22, 22] 22 #[.slice out11_12.a out11_12.n out11_12.c, .slice (some ⟨w_136.heap.size, 0, none⟩) 1 1]).run Try.prog w_147 = .ok (.slice t34_148.a t34_148.n t34_148.c : Value) w_149 ∧
  F62_j14 a0_10 b1_11 next10 t34_148 w_149) ∧
  (both3_4 = false →
  F62_j14 a0_10 b1_11 next10 out11_12 w_136))))))))) ∧
  (¬ (((a0_10.n : Int)) > 0) →
  ∀ (w_155 : World), (∃ m, w_155 = w_13.drewN m) →
  (((((a0_10.n : Int))) = 0 →
  ∀ (w_156 : World), (∃ m, w_156 = w_155.drewN m) →
  ((two4_5 = true →
  (0 : Int) ≤ 0 ∧ 0 < (b1_11.n : Int) ∧ ∃ (a_157 : Addr), b1_11.a = some a_157 ∧
  ∃ (t83_158 : Int), w_156.cell? (a_157.add (Int.toNat 0)) = some (.int .u32 t83_158) ∧
  ∀ (w_159 : World), w_159 = w_156.alloc (.cells #[.int .u32 t83_158] 23) →
  ∃ (t85_160 : Sl), ∃ (w_161 : World), (Builtin.append_ #[22, 22] 22 #[.slice out11_12.a out11_12.n out11_12.c, .slice (some ⟨w_156.heap.size, 0, none⟩) 1 1]).run Try.prog w_159 = .ok (.slice t85_160.a t85_160.n t85_160.c : Value) w_161 ∧
  F62_j15 a0_10 b1_11 next10 t85_160 w_161) ∧
  (two4_5 = false →
  F62_j15 a0_10 b1_11 next10 out11_12 w_156))) ∧
  (¬ (((a0_10.n : Int))) = 0 →
  (0 : Int) ≤ 0 ∧ 0 < (b1_11.n : Int) ∧ ∃ (a_165 : Addr), b1_11.a = some a_165 ∧
  ∃ (t73_166 : Int), w_155.cell? (a_165.add (Int.toNat 0)) = some (.int .u32 t73_166) ∧
  (0 : Int) ≤ 0 ∧ 0 < (a0_10.n : Int) ∧ ∃ (a_167 : Addr), a0_10.a = some a_167 ∧
  ∃ (t76_168 : Int), w_155.cell? (a_167.add (Int.toNat 0)) = some (.int .u32 t76_168) ∧
  ∀ (w_169 : World), (∃ m, w_169 = w_155.drewN m) →
  ((t73_166 < t76_168 →
  ((two4_5 = true →
  (0 : Int) ≤ 0 ∧ 0 < (b1_11.n : Int) ∧ ∃ (a_170 : Addr), b1_11.a = some a_170 ∧
  ∃ (t83_171 : Int), w_169.cell? (a_170.add (Int.toNat 0)) = some (.int .u32 t83_171) ∧
  ∀ (w_172 : World), w_172 = w_169.alloc (.cells #[.int .u32 t83_171] 23) →
  ∃ (t85_173 : Sl), ∃ (w_174 : World), (Builtin.append_ #[22, 22] 22 #[.slice out11_12.a out11_12.n out11_12.c, .slice (some ⟨w_169.heap.size, 0, none⟩) 1 1]).run Try.prog w_172 = .ok (.slice t85_173.a t85_173.n t85_173.c : Value) w_174 ∧
  F62_j16 a0_10 b1_11 next10 t85_173 w_174) ∧
  (two4_5 = false →
  F62_j16 a0_10 b1_11 next10 out11_12 w_169))) ∧
  (¬ (t73_166 < t76_168) →
  ((both3_4 = true →
  (0 : Int) ≤ 0 ∧ 0 < (a0_10.n : Int) ∧ ∃ (a_178 : Addr), a0_10.a = some a_178 ∧
  ∃ (t32_179 : Int), w_169.cell? (a_178.add (Int.toNat 0)) = some (.int .u32 t32_179) ∧
  ∀ (w_180 : World), w_180 = w_169.alloc (.cells #[.int .u32 t32_179] 23) →
  ∃ (t34_181 : Sl), ∃ (w_182 : World), (Builtin.append_ #[22, 22] 22 #[.slice out11_12.a out11_12.n out11_12.c, .slice (some ⟨w_169.heap.size, 0, none⟩) 1 1]).run Try.prog w_180 = .ok (.slice t34_181.a t34_181.n t34_181.c : Value) w_182 ∧
  F62_j17 a0_10 b1_11 next10 t34_181 w_182) ∧
  (both3_4 = false →
  F62_j17 a0_10 b1_11 next10 out11_12 w_169))))))))))) ∧
  (¬ (((b1_11.n : Int)) > 0) →
  K out11_12 w_13))))
/-- turnkey/post.joined[uint32] -/
def F62 (a0_1 : Sl) (b1_2 : Sl) (one2_3 : Bool) (both3_4 : Bool) (two4_5 : Bool) (K : Sl → World → Prop) (w : World) : Prop :=
  Calls Try.prog 63 #[.slice a0_1.a a0_1.n a0_1.c] w fun e w_7 => ∃ (t13_6 : Bool), e = .returned (.bool t13_6 : Value) ∧
  ((t13_6 = false →
  K (⟨none, 0, 0⟩) w_7) ∧
  (t13_6 = true →
  Calls Try.prog 63 #[.slice b1_2.a b1_2.n b1_2.c] w_7 fun e w_9 => ∃ (t17_8 : Bool), e = .returned (.bool t17_8 : Value) ∧
  ((t17_8 = false →
  K (⟨none, 0, 0⟩) w_9) ∧
  (t17_8 = true →
  kLoop (F62_l1 one2_3 both3_4 two4_5 K) (a0_1, b1_2, ⟨none, 0, 0⟩) w_9))))
set_option maxHeartbeats 4000000 in
set_option maxRecDepth 20000 in
theorem F62_sound (a0_1 : Sl) (b1_2 : Sl) (one2_3 : Bool) (both3_4 : Bool) (two4_5 : Bool) (K : Sl → World → Prop) (w : World) (h : F62 a0_1 b1_2 one2_3 both3_4 two4_5 K w) :
    Calls Try.prog 62 #[.slice a0_1.a a0_1.n a0_1.c, .slice b1_2.a b1_2.n b1_2.c, .bool one2_3, .bool both3_4, .bool two4_5] w (fun e w1 => ∃ (r0 : Sl), e = .returned (.slice r0.a r0.n r0.c : Value) ∧ K r0 w1) := by
  unfold F62 at h
  refine y_enter (n := 89) (args := [.slice a0_1.a a0_1.n a0_1.c, .slice b1_2.a b1_2.n b1_2.c, .bool one2_3, .bool both3_4, .bool two4_5]) Try.func62 rfl rfl rfl fun Q0 hQ0 => ?_
  refine y_seq fun K1 hK1 => ?_
  refine y_region ?_
  refine y_k (.slice none 0 0 : Value) w rfl rfl rfl (by kernel_rfl) ?_
  refine y_nil ?_
  refine y_then (hK1 _ _ ?_)
  refine y_seq fun K2 hK2 => ?_
  refine y_seq fun K3 hK3 => ?_
  refine y_region ?_
  refine y_k (.slice a0_1.a a0_1.n a0_1.c : Value) w rfl rfl rfl (by kernel_rfl) ?_
  refine y_call rfl rfl rfl (by kernel_rfl) (h.mono ?_)
  rintro _ w_7 ⟨t13_6, rfl, h⟩
  refine ⟨_, rfl, ?_⟩
  refine y_k (.bool (!(t13_6)) : Value) w_7 rfl rfl rfl (by kernel_rfl) ?_
  refine y_k (.bool (!(t13_6)) : Value) w_7 rfl rfl rfl (by kernel_rfl) ?_
  refine y_fork (!(t13_6)) (fun hb4 => ?_) (fun hb4 => ?_)
  · replace h := h.1 ((not_true_of hb4))
    refine y_frame (upd_id (i := 15) (v := .bool true) rfl (congrArg Value.bool hb4)) ?_
    refine y_gno rfl rfl rfl rfl ?_
    refine y_gno rfl rfl rfl rfl ?_
    refine y_gno rfl rfl rfl rfl ?_
    refine y_k (.bool true : Value) w_7 rfl rfl rfl (by kernel_rfl) ?_
    refine y_nil ?_
    refine y_then (hK3 _ _ ?_)
    refine y_cond_t rfl rfl ?_
    refine y_seq fun K5 hK5 => ?_
    refine y_region ?_
    refine y_k (.slice none 0 0 : Value) w_7 rfl rfl rfl (by kernel_rfl) ?_
    refine y_nil ?_
    refine y_then (hK5 _ _ ?_)
    refine y_ret ?_
    repeat (first | refine e_then_r ?_ | refine e_block_r ?_)
    exact (hQ0 _ _ _ (res1 (v := (.slice none 0 0 : Value)) rfl rfl rfl) ⟨_, rfl, h⟩).1
  · replace h := h.2 ((not_false_of hb4))
    refine y_frame (upd_id (i := 15) (v := .bool false) rfl (congrArg Value.bool hb4)) ?_
    refine y_gyes rfl rfl rfl ?_
    refine y_k (.slice b1_2.a b1_2.n b1_2.c : Value) w_7 rfl rfl rfl (by kernel_rfl) ?_
    refine y_gyes rfl rfl rfl ?_
    refine y_call rfl rfl rfl (by kernel_rfl) (h.mono ?_)
    rintro _ w_9 ⟨t17_8, rfl, h⟩
    refine ⟨_, rfl, ?_⟩
    refine y_gyes rfl rfl rfl ?_
    refine y_k (.bool (!(t17_8)) : Value) w_9 rfl rfl rfl (by kernel_rfl) ?_
    refine y_k (.bool (!(t17_8)) : Value) w_9 rfl rfl rfl (by kernel_rfl) ?_
    refine y_nil ?_
    refine y_then (hK3 _ _ ?_)
    refine y_cond (!(t17_8)) rfl rfl (fun hb209 => ?_) (fun hb209 => ?_)
    · replace h := h.1 ((not_true_of hb209))
      refine y_seq fun K6 hK6 => ?_
      refine y_region ?_
      refine y_k (.slice none 0 0 : Value) w_9 rfl rfl rfl (by kernel_rfl) ?_
      refine y_nil ?_
      refine y_then (hK6 _ _ ?_)
      refine y_ret ?_
      repeat (first | refine e_then_r ?_ | refine e_block_r ?_)
      exact (hQ0 _ _ _ (res1 (v := (.slice none 0 0 : Value)) rfl rfl rfl) ⟨_, rfl, h⟩).1
    · replace h := h.2 ((not_false_of hb209))
      refine y_skip ?_
      refine y_then (hK2 _ _ ?_)
      refine y_seq fun K7 hK7 => ?_
      refine y_region ?_
      refine y_k (.slice none 0 0 : Value) w_9 rfl rfl rfl (by kernel_rfl) ?_
      refine y_nil ?_
      refine y_then (hK7 _ _ ?_)
      refine y_seq fun K8 hK8 => ?_
      refine y_block ?_
      refine y_loop (S := Sl × Sl × Sl) (fun s j => match s with | (a0_10, b1_11, out11_12) => upd (upd (upd (upd (upd (upd (j) 0 (.slice a0_10.a a0_10.n a0_10.c : Value)) 1 (.slice b1_11.a b1_11.n b1_11.c : Value)) 2 (.bool one2_3 : Value)) 3 (.bool both3_4 : Value)) 4 (.bool two4_5 : Value)) 11 (.slice out11_12.a out11_12.n out11_12.c : Value)) (a0_1, b1_2, ⟨none, 0, 0⟩) ?_ h ?_
      · dsimp only
        refine upd_id ?_ rfl
        refine upd_id ?_ rfl
        refine upd_id ?_ rfl
        refine upd_id ?_ rfl
        refine upd_id ?_ rfl
        refine upd_id ?_ rfl
        rfl
      rintro KN11 next10 hN11 ⟨a0_10, b1_11, out11_12⟩ j w_13 h
      unfold F62_l1 at h
      refine y_seq fun K12 hK12 => ?_
      refine y_seq fun K13 hK13 => ?_
      refine y_region ?_
      refine y_k (.slice a0_10.a a0_10.n a0_10.c : Value) w_13 rfl rfl rfl (by kernel_rfl) ?_
      refine y_k (.int .i64 ((a0_10.n : Int)) : Value) w_13 rfl rfl rfl (by kernel_rfl) ?_
      refine y_k (.bool (decide (((a0_10.n : Int)) > 0)) : Value) w_13 rfl rfl rfl (by kernel_rfl) ?_
      refine y_k (.bool (decide (((a0_10.n : Int)) > 0)) : Value) w_13 rfl rfl rfl (by kernel_rfl) ?_
      refine y_fork (decide (((a0_10.n : Int)) > 0)) (fun hb14 => ?_) (fun hb14 => ?_)
      · replace h := h.1 (of_decide_eq_true hb14)
        refine y_frame (upd_id (i := 23) (v := .bool true) rfl (congrArg Value.bool hb14)) ?_
        refine y_gno rfl rfl rfl rfl ?_
        refine y_gno rfl rfl rfl rfl ?_
        refine y_gno rfl rfl rfl rfl ?_
        refine y_k (.bool true : Value) w_13 rfl rfl rfl (by kernel_rfl) ?_
        refine y_nil ?_
        refine y_then (hK13 _ _ ?_)
        refine y_cond_t rfl rfl ?_
        refine y_skip ?_
        refine y_then (hK12 _ _ ?_)
        refine y_block ?_
        refine y_block ?_
        refine y_seq fun K17 hK17 => ?_
        refine q_region (by kernel_rfl) (by kernel_rfl) fun Qq18 hQq18 => ?_
        refine q_k (.slice b1_11.a b1_11.n b1_11.c : Value) rfl rfl rfl (fun _ => by kernel_rfl) ?_
        refine q_k (.int .i64 ((b1_11.n : Int)) : Value) rfl rfl rfl (fun _ => by kernel_rfl) ?_
        refine q_k (.bool (((((b1_11.n : Int))) == 0)) : Value) rfl rfl rfl (fun _ => by kernel_rfl) ?_
        refine q_k (.bool (((((b1_11.n : Int))) == 0)) : Value) rfl rfl rfl (fun _ => by kernel_rfl) ?_
        refine q_fork (((((b1_11.n : Int))) == 0)) (fun hb19 => ?_) (fun hb19 => ?_)
        · replace h := h.1 (eq_of_beq hb19)
          refine q_frame (upd_id (i := 43) (v := .bool true) rfl (congrArg Value.bool hb19)) ?_
          refine q_gno rfl rfl rfl rfl ?_
          refine q_gno rfl rfl rfl rfl ?_
          refine q_gno rfl rfl rfl rfl ?_
          refine q_gno rfl rfl rfl rfl ?_
          refine q_gud rfl rfl rfl rfl ?_
          refine q_gud rfl rfl rfl rfl ?_
          refine q_gud rfl rfl rfl rfl ?_
          refine q_gud rfl rfl rfl rfl ?_
          refine q_gud rfl rfl rfl rfl ?_
          refine q_gud rfl rfl rfl rfl ?_
          refine q_gud rfl rfl rfl rfl ?_
          refine q_gno rfl rfl rfl rfl ?_
          refine q_k (.bool true : Value) rfl rfl rfl (fun _ => by kernel_rfl) ?_
          refine q_k (.bool true : Value) rfl rfl rfl (fun _ => by kernel_rfl) ?_
          refine q_nil (hQq18 _ fun m27 => ?_)
          replace h := h _ ⟨m27, rfl⟩
          generalize w_13.drewN m27 = w_14 at h ⊢
          refine y_then (hK17 _ _ ?_)
          refine y_cond_t rfl rfl ?_
          refine y_seq fun K20 hK20 => ?_
          have hjK20 : ∀ (f : Fr) (out11_20 : Sl) (w_21 : World), f 0 = (.slice a0_10.a a0_10.n a0_10.c : Value) → f 1 = (.slice b1_11.a b1_11.n b1_11.c : Value) → f 2 = (.bool one2_3 : Value) → f 3 = (.bool both3_4 : Value) → f 4 = (.bool two4_5 : Value) → f 11 = (.slice out11_20.a out11_20.n out11_20.c : Value) → F62_j2 a0_10 b1_11 next10 out11_20 w_21 → WK K20 89 f w_21 := by
            intro f out11_20 w_21 e0 e1 e2 e3 e4 e11 h
            refine y_atf (upd_id (upd_id (upd_id (upd_id (upd_id (upd_id rfl e0) e1) e2) e3) e4) e11) ?_
            clear e0 e1 e2 e3 e4 e11
            unfold F62_j2 at h
            refine hK20 _ _ ?_
            refine y_region ?_
            refine y_k (.slice a0_10.a a0_10.n a0_10.c : Value) w_21 rfl rfl rfl (by kernel_rfl) ?_
            obtain ⟨t65_22, hx25, h⟩ := h
            refine y_v (s := Instr.sliceAt 22 (.slice a0_10.a a0_10.n a0_10.c : Value) (some (.int .i64 1 : Value)) none none) rfl rfl rfl (by kernel_rfl) (hx25) ?_
            refine y_k (.slice t65_22.a t65_22.n t65_22.c : Value) w_21 rfl rfl rfl (by kernel_rfl) ?_
            refine y_nil ?_
            refine e_block_n ?_
            refine e_block_n ?_
            refine y_then (hN11 (t65_22, b1_11, out11_20) _ _ h ?_)
            dsimp only
            refine upd_id ?_ rfl
            refine upd_id ?_ rfl
            refine upd_id ?_ rfl
            refine upd_id ?_ rfl
            refine upd_id ?_ rfl
            refine upd_id ?_ rfl
            rfl
          refine y_seq fun K21 hK21 => ?_
          refine y_region ?_
          refine y_k (.bool one2_3 : Value) w_14 rfl rfl rfl (by kernel_rfl) ?_
          refine y_nil ?_
          refine y_then (hK21 _ _ ?_)
          refine y_cond (one2_3) rfl rfl (fun hb26 => ?_) (fun hb26 => ?_)
          · replace h := h.1 (hb26)
            refine y_region ?_
            refine y_k (.slice out11_12.a out11_12.n out11_12.c : Value) w_14 rfl rfl rfl (by kernel_rfl) ?_
            refine y_k (.slice a0_10.a a0_10.n a0_10.c : Value) w_14 rfl rfl rfl (by kernel_rfl) ?_
            obtain ⟨hx22a, hx22b, a_15, hx22, h⟩ := h
            refine y_v (v := (.pointer (some (a_15.add (Int.toNat 0))) : Value)) (s := Instr.indexAt 22 (.slice a0_10.a a0_10.n a0_10.c : Value) (.int .i64 0 : Value)) rfl rfl rfl (by kernel_rfl) (run_ixs1 (el := 23) (by kernel_rfl) (by kernel_rfl) hx22 hx22a hx22b) ?_
            obtain ⟨t61_16, hx23, h⟩ := h
            refine y_v (s := Instr.loadAt 23 (.pointer (some (a_15.add (Int.toNat 0))))) rfl rfl rfl (by kernel_rfl) (rn_load (by kernel_rfl) hx23) ?_
            refine y_k (.slice (some ⟨w_14.heap.size, 0, none⟩) 1 1 : Value) (w_14.alloc (.cells #[.int .u32 t61_16] 23)) rfl rfl rfl (by kernel_rfl) ?_
            replace h := h _ rfl
            generalize w_14.alloc (.cells #[.int .u32 t61_16] 23) = w_17 at h ⊢
            obtain ⟨t63_18, w_19, hx24, h⟩ := h
            refine y_v (s := Builtin.append_ #[22, 22] 22 #[.slice out11_12.a out11_12.n out11_12.c, .slice (some ⟨w_14.heap.size, 0, none⟩) 1 1]) rfl rfl rfl (by kernel_rfl) hx24 ?_
            refine y_k (.slice t63_18.a t63_18.n t63_18.c : Value) w_19 rfl rfl rfl (by kernel_rfl) ?_
            refine y_nil ?_
            exact y_then (hjK20 _ t63_18 w_19 rfl rfl rfl rfl rfl rfl h)
          · replace h := h.2 (hb26)
            refine y_skip ?_
            exact y_then (hjK20 _ out11_12 w_14 rfl rfl rfl rfl rfl rfl h)
        · replace h := h.2 (beq_eq_false_iff_ne.mp hb19)
          refine q_frame (upd_id (i := 43) (v := .bool false) rfl (congrArg Value.bool hb19)) ?_
          refine q_gyes rfl rfl rfl ?_
          refine q_k (.slice a0_10.a a0_10.n a0_10.c : Value) rfl rfl rfl (fun _ => by kernel_rfl) ?_
          refine q_gyes rfl rfl rfl ?_
          refine q_k (.int .i64 ((a0_10.n : Int)) : Value) rfl rfl rfl (fun _ => by kernel_rfl) ?_
          refine q_gyes rfl rfl rfl ?_
          refine q_k (.bool (decide (((a0_10.n : Int)) > 0)) : Value) rfl rfl rfl (fun _ => by kernel_rfl) ?_
          refine q_gyes rfl rfl rfl ?_
          refine q_k (.bool (decide (((a0_10.n : Int)) > 0)) : Value) rfl rfl rfl (fun _ => by kernel_rfl) ?_
          refine q_fork (decide (((a0_10.n : Int)) > 0)) (fun hb28 => ?_) (fun hb28 => ?_)
          · replace h := h.1 (of_decide_eq_true hb28)
            refine q_frame (upd_id (i := 47) (v := .bool true) rfl (congrArg Value.bool hb28)) ?_
            refine q_gyes rfl rfl rfl ?_
            refine q_k (.slice a0_10.a a0_10.n a0_10.c : Value) rfl rfl rfl (fun _ => by kernel_rfl) ?_
            refine q_gyes rfl rfl rfl ?_
            obtain ⟨hx29a, hx29b, a_23, hx29, h⟩ := h
            refine q_v (v := (.pointer (some (a_23.add (Int.toNat 0))) : Value)) (s := Instr.indexAt 22 (.slice a0_10.a a0_10.n a0_10.c : Value) (.int .i64 0 : Value)) rfl rfl rfl (by kernel_rfl) (fun _ => run_ixs1 (el := 23) (by kernel_rfl) (by kernel_rfl) hx29 hx29a hx29b) ?_
            refine q_gyes rfl rfl rfl ?_
            obtain ⟨t50_24, hx30, h⟩ := h
            refine q_v (v := (.int .u32 t50_24 : Value)) (s := Instr.loadAt 23 (.pointer (some (a_23.add (Int.toNat 0))))) rfl rfl rfl (by kernel_rfl) (fun _ => rn_load (by kernel_rfl) hx30) ?_
            refine q_gyes rfl rfl rfl ?_
            refine q_k (.slice b1_11.a b1_11.n b1_11.c : Value) rfl rfl rfl (fun _ => by kernel_rfl) ?_
            refine q_gyes rfl rfl rfl ?_
            obtain ⟨hx31a, hx31b, a_25, hx31, h⟩ := h
            refine q_v (v := (.pointer (some (a_25.add (Int.toNat 0))) : Value)) (s := Instr.indexAt 22 (.slice b1_11.a b1_11.n b1_11.c : Value) (.int .i64 0 : Value)) rfl rfl rfl (by kernel_rfl) (fun _ => run_ixs1 (el := 23) (by kernel_rfl) (by kernel_rfl) hx31 hx31a hx31b) ?_
            refine q_gyes rfl rfl rfl ?_
            obtain ⟨t53_26, hx32, h⟩ := h
            refine q_v (v := (.int .u32 t53_26 : Value)) (s := Instr.loadAt 23 (.pointer (some (a_25.add (Int.toNat 0))))) rfl rfl rfl (by kernel_rfl) (fun _ => rn_load (by kernel_rfl) hx32) ?_
            refine q_gyes rfl rfl rfl ?_
            refine q_k (.bool (decide (t50_24 < t53_26)) : Value) rfl rfl rfl (fun _ => by kernel_rfl) ?_
            refine q_gyes rfl rfl rfl ?_
            refine q_k (.bool (decide (t50_24 < t53_26)) : Value) rfl rfl rfl (fun _ => by kernel_rfl) ?_
            refine q_k (.bool (decide (t50_24 < t53_26)) : Value) rfl rfl rfl (fun _ => by kernel_rfl) ?_
            refine q_k (.bool (decide (t50_24 < t53_26)) : Value) rfl rfl rfl (fun _ => by kernel_rfl) ?_
            refine q_nil (hQq18 _ fun m75 => ?_)
            replace h := h _ ⟨m75, rfl⟩
            generalize w_13.drewN m75 = w_27 at h ⊢
            refine y_then (hK17 _ _ ?_)
            refine y_cond (decide (t50_24 < t53_26)) rfl rfl (fun hb74 => ?_) (fun hb74 => ?_)
            · replace h := h.1 (of_decide_eq_true hb74)
              refine y_seq fun K33 hK33 => ?_
              have hjK33 : ∀ (f : Fr) (out11_33 : Sl) (w_34 : World), f 0 = (.slice a0_10.a a0_10.n a0_10.c : Value) → f 1 = (.slice b1_11.a b1_11.n b1_11.c : Value) → f 2 = (.bool one2_3 : Value) → f 3 = (.bool both3_4 : Value) → f 4 = (.bool two4_5 : Value) → f 11 = (.slice out11_33.a out11_33.n out11_33.c : Value) → F62_j3 a0_10 b1_11 next10 out11_33 w_34 → WK K33 89 f w_34 := by
                intro f out11_33 w_34 e0 e1 e2 e3 e4 e11 h
                refine y_atf (upd_id (upd_id (upd_id (upd_id (upd_id (upd_id rfl e0) e1) e2) e3) e4) e11) ?_
                clear e0 e1 e2 e3 e4 e11
                unfold F62_j3 at h
                refine hK33 _ _ ?_
                refine y_region ?_
                refine y_k (.slice a0_10.a a0_10.n a0_10.c : Value) w_34 rfl rfl rfl (by kernel_rfl) ?_
                obtain ⟨t65_35, hx38, h⟩ := h
                refine y_v (s := Instr.sliceAt 22 (.slice a0_10.a a0_10.n a0_10.c : Value) (some (.int .i64 1 : Value)) none none) rfl rfl rfl (by kernel_rfl) (hx38) ?_
                refine y_k (.slice t65_35.a t65_35.n t65_35.c : Value) w_34 rfl rfl rfl (by kernel_rfl) ?_
                refine y_nil ?_
                refine e_block_n ?_
                refine e_block_n ?_
                refine y_then (hN11 (t65_35, b1_11, out11_33) _ _ h ?_)
                dsimp only
                refine upd_id ?_ rfl
                refine upd_id ?_ rfl
                refine upd_id ?_ rfl
                refine upd_id ?_ rfl
                refine upd_id ?_ rfl
                refine upd_id ?_ rfl
                rfl
              refine y_seq fun K34 hK34 => ?_
              refine y_region ?_
              refine y_k (.bool one2_3 : Value) w_27 rfl rfl rfl (by kernel_rfl) ?_
              refine y_nil ?_
              refine y_then (hK34 _ _ ?_)
              refine y_cond (one2_3) rfl rfl (fun hb39 => ?_) (fun hb39 => ?_)
              · replace h := h.1 (hb39)
                refine y_region ?_
                refine y_k (.slice out11_12.a out11_12.n out11_12.c : Value) w_27 rfl rfl rfl (by kernel_rfl) ?_
                refine y_k (.slice a0_10.a a0_10.n a0_10.c : Value) w_27 rfl rfl rfl (by kernel_rfl) ?_
                obtain ⟨hx35a, hx35b, a_28, hx35, h⟩ := h
                refine y_v (v := (.pointer (some (a_28.add (Int.toNat 0))) : Value)) (s := Instr.indexAt 22 (.slice a0_10.a a0_10.n a0_10.c : Value) (.int .i64 0 : Value)) rfl rfl rfl (by kernel_rfl) (run_ixs1 (el := 23) (by kernel_rfl) (by kernel_rfl) hx35 hx35a hx35b) ?_
                obtain ⟨t61_29, hx36, h⟩ := h
                refine y_v (s := Instr.loadAt 23 (.pointer (some (a_28.add (Int.toNat 0))))) rfl rfl rfl (by kernel_rfl) (rn_load (by kernel_rfl) hx36) ?_
                refine y_k (.slice (some ⟨w_27.heap.size, 0, none⟩) 1 1 : Value) (w_27.alloc (.cells #[.int .u32 t61_29] 23)) rfl rfl rfl (by kernel_rfl) ?_
                replace h := h _ rfl
                generalize w_27.alloc (.cells #[.int .u32 t61_29] 23) = w_30 at h ⊢
                obtain ⟨t63_31, w_32, hx37, h⟩ := h
                refine y_v (s := Builtin.append_ #[22, 22] 22 #[.slice out11_12.a out11_12.n out11_12.c, .slice (some ⟨w_27.heap.size, 0, none⟩) 1 1]) rfl rfl rfl (by kernel_rfl) hx37 ?_
                refine y_k (.slice t63_31.a t63_31.n t63_31.c : Value) w_32 rfl rfl rfl (by kernel_rfl) ?_
                refine y_nil ?_
                exact y_then (hjK33 _ t63_31 w_32 rfl rfl rfl rfl rfl rfl h)
              · replace h := h.2 (hb39)
                refine y_skip ?_
                exact y_then (hjK33 _ out11_12 w_27 rfl rfl rfl rfl rfl rfl h)
            · replace h := h.2 (of_decide_eq_false hb74)
              refine y_seq fun K40 hK40 => ?_
              refine q_region (by kernel_rfl) (by kernel_rfl) fun Qq41 hQq41 => ?_
              refine q_k (.slice a0_10.a a0_10.n a0_10.c : Value) rfl rfl rfl (fun _ => by kernel_rfl) ?_
              refine q_k (.int .i64 ((a0_10.n : Int)) : Value) rfl rfl rfl (fun _ => by kernel_rfl) ?_
              refine q_k (.bool (((((a0_10.n : Int))) == 0)) : Value) rfl rfl rfl (fun _ => by kernel_rfl) ?_
              refine q_k (.bool (((((a0_10.n : Int))) == 0)) : Value) rfl rfl rfl (fun _ => by kernel_rfl) ?_
              refine q_fork (((((a0_10.n : Int))) == 0)) (fun hb42 => ?_) (fun hb42 => ?_)
              · replace h := h.1 (eq_of_beq hb42)
                refine q_frame (upd_id (i := 70) (v := .bool true) rfl (congrArg Value.bool hb42)) ?_
                refine q_gno rfl rfl rfl rfl ?_
                refine q_gno rfl rfl rfl rfl ?_
                refine q_gno rfl rfl rfl rfl ?_
                refine q_gno rfl rfl rfl rfl ?_
                refine q_gno rfl rfl rfl rfl ?_
                refine q_gno rfl rfl rfl rfl ?_
                refine q_gno rfl rfl rfl rfl ?_
                refine q_k (.bool true : Value) rfl rfl rfl (fun _ => by kernel_rfl) ?_
                refine q_k (.bool true : Value) rfl rfl rfl (fun _ => by kernel_rfl) ?_
                refine q_nil (hQq41 _ fun m50 => ?_)
                replace h := h _ ⟨m50, rfl⟩
                generalize w_27.drewN m50 = w_36 at h ⊢
                refine y_then (hK40 _ _ ?_)
                refine y_cond_t rfl rfl ?_
                refine y_seq fun K43 hK43 => ?_
                have hjK43 : ∀ (f : Fr) (out11_42 : Sl) (w_43 : World), f 0 = (.slice a0_10.a a0_10.n a0_10.c : Value) → f 1 = (.slice b1_11.a b1_11.n b1_11.c : Value) → f 2 = (.bool one2_3 : Value) → f 3 = (.bool both3_4 : Value) → f 4 = (.bool two4_5 : Value) → f 11 = (.slice out11_42.a out11_42.n out11_42.c : Value) → F62_j4 a0_10 b1_11 next10 out11_42 w_43 → WK K43 89 f w_43 := by
                  intro f out11_42 w_43 e0 e1 e2 e3 e4 e11 h
                  refine y_atf (upd_id (upd_id (upd_id (upd_id (upd_id (upd_id rfl e0) e1) e2) e3) e4) e11) ?_
                  clear e0 e1 e2 e3 e4 e11
                  unfold F62_j4 at h
                  refine hK43 _ _ ?_
                  refine y_region ?_
                  refine y_k (.slice b1_11.a b1_11.n b1_11.c : Value) w_43 rfl rfl rfl (by kernel_rfl) ?_
                  obtain ⟨t87_44, hx48, h⟩ := h
                  refine y_v (s := Instr.sliceAt 22 (.slice b1_11.a b1_11.n b1_11.c : Value) (some (.int .i64 1 : Value)) none none) rfl rfl rfl (by kernel_rfl) (hx48) ?_
                  refine y_k (.slice t87_44.a t87_44.n t87_44.c : Value) w_43 rfl rfl rfl (by kernel_rfl) ?_
                  refine y_nil ?_
                  refine e_block_n ?_
                  refine e_block_n ?_
                  refine y_then (hN11 (a0_10, t87_44, out11_42) _ _ h ?_)
                  dsimp only
                  refine upd_id ?_ rfl
                  refine upd_id ?_ rfl
                  refine upd_id ?_ rfl
                  refine upd_id ?_ rfl
                  refine upd_id ?_ rfl
                  refine upd_id ?_ rfl
                  rfl
                refine y_seq fun K44 hK44 => ?_
                refine y_region ?_
                refine y_k (.bool two4_5 : Value) w_36 rfl rfl rfl (by kernel_rfl) ?_
                refine y_nil ?_
                refine y_then (hK44 _ _ ?_)
                refine y_cond (two4_5) rfl rfl (fun hb49 => ?_) (fun hb49 => ?_)
                · replace h := h.1 (hb49)
                  refine y_region ?_
                  refine y_k (.slice out11_12.a out11_12.n out11_12.c : Value) w_36 rfl rfl rfl (by kernel_rfl) ?_
                  refine y_k (.slice b1_11.a b1_11.n b1_11.c : Value) w_36 rfl rfl rfl (by kernel_rfl) ?_
                  obtain ⟨hx45a, hx45b, a_37, hx45, h⟩ := h
                  refine y_v (v := (.pointer (some (a_37.add (Int.toNat 0))) : Value)) (s := Instr.indexAt 22 (.slice b1_11.a b1_11.n b1_11.c : Value) (.int .i64 0 : Value)) rfl rfl rfl (by kernel_rfl) (run_ixs1 (el := 23) (by kernel_rfl) (by kernel_rfl) hx45 hx45a hx45b) ?_
                  obtain ⟨t83_38, hx46, h⟩ := h
                  refine y_v (s := Instr.loadAt 23 (.pointer (some (a_37.add (Int.toNat 0))))) rfl rfl rfl (by kernel_rfl) (rn_load (by kernel_rfl) hx46) ?_
                  refine y_k (.slice (some ⟨w_36.heap.size, 0, none⟩) 1 1 : Value) (w_36.alloc (.cells #[.int .u32 t83_38] 23)) rfl rfl rfl (by kernel_rfl) ?_
                  replace h := h _ rfl
                  generalize w_36.alloc (.cells #[.int .u32 t83_38] 23) = w_39 at h ⊢
                  obtain ⟨t85_40, w_41, hx47, h⟩ := h
                  refine y_v (s := Builtin.append_ #[22, 22] 22 #[.slice out11_12.a out11_12.n out11_12.c, .slice (some ⟨w_36.heap.size, 0, none⟩) 1 1]) rfl rfl rfl (by kernel_rfl) hx47 ?_
                  refine y_k (.slice t85_40.a t85_40.n t85_40.c : Value) w_41 rfl rfl rfl (by kernel_rfl) ?_
                  refine y_nil ?_
                  exact y_then (hjK43 _ t85_40 w_41 rfl rfl rfl rfl rfl rfl h)
                · replace h := h.2 (hb49)
                  refine y_skip ?_
                  exact y_then (hjK43 _ out11_12 w_36 rfl rfl rfl rfl rfl rfl h)
              · replace h := h.2 (beq_eq_false_iff_ne.mp hb42)
                refine q_frame (upd_id (i := 70) (v := .bool false) rfl (congrArg Value.bool hb42)) ?_
                refine q_gyes rfl rfl rfl ?_
                refine q_k (.slice b1_11.a b1_11.n b1_11.c : Value) rfl rfl rfl (fun _ => by kernel_rfl) ?_
                refine q_gyes rfl rfl rfl ?_
                obtain ⟨hx51a, hx51b, a_45, hx51, h⟩ := h
                refine q_v (v := (.pointer (some (a_45.add (Int.toNat 0))) : Value)) (s := Instr.indexAt 22 (.slice b1_11.a b1_11.n b1_11.c : Value) (.int .i64 0 : Value)) rfl rfl rfl (by kernel_rfl) (fun _ => run_ixs1 (el := 23) (by kernel_rfl) (by kernel_rfl) hx51 hx51a hx51b) ?_
                refine q_gyes rfl rfl rfl ?_
                obtain ⟨t73_46, hx52, h⟩ := h
                refine q_v (v := (.int .u32 t73_46 : Value)) (s := Instr.loadAt 23 (.pointer (some (a_45.add (Int.toNat 0))))) rfl rfl rfl (by kernel_rfl) (fun _ => rn_load (by kernel_rfl) hx52) ?_
                refine q_gyes rfl rfl rfl ?_
                refine q_k (.slice a0_10.a a0_10.n a0_10.c : Value) rfl rfl rfl (fun _ => by kernel_rfl) ?_
                refine q_gyes rfl rfl rfl ?_
                obtain ⟨hx53a, hx53b, a_47, hx53, h⟩ := h
                refine q_v (v := (.pointer (some (a_47.add (Int.toNat 0))) : Value)) (s := Instr.indexAt 22 (.slice a0_10.a a0_10.n a0_10.c : Value) (.int .i64 0 : Value)) rfl rfl rfl (by kernel_rfl) (fun _ => run_ixs1 (el := 23) (by kernel_rfl) (by kernel_rfl) hx53 hx53a hx53b) ?_
                refine q_gyes rfl rfl rfl ?_
                obtain ⟨t76_48, hx54, h⟩ := h
                refine q_v (v := (.int .u32 t76_48 : Value)) (s := Instr.loadAt 23 (.pointer (some (a_47.add (Int.toNat 0))))) rfl rfl rfl (by kernel_rfl) (fun _ => rn_load (by kernel_rfl) hx54) ?_
                refine q_gyes rfl rfl rfl ?_
                refine q_k (.bool (decide (t73_46 < t76_48)) : Value) rfl rfl rfl (fun _ => by kernel_rfl) ?_
                refine q_k (.bool (decide (t73_46 < t76_48)) : Value) rfl rfl rfl (fun _ => by kernel_rfl) ?_
                refine q_k (.bool (decide (t73_46 < t76_48)) : Value) rfl rfl rfl (fun _ => by kernel_rfl) ?_
                refine q_nil (hQq41 _ fun m73 => ?_)
                replace h := h _ ⟨m73, rfl⟩
                generalize w_27.drewN m73 = w_49 at h ⊢
                refine y_then (hK40 _ _ ?_)
                refine y_cond (decide (t73_46 < t76_48)) rfl rfl (fun hb72 => ?_) (fun hb72 => ?_)
                · replace h := h.1 (of_decide_eq_true hb72)
                  refine y_seq fun K55 hK55 => ?_
                  have hjK55 : ∀ (f : Fr) (out11_55 : Sl) (w_56 : World), f 0 = (.slice a0_10.a a0_10.n a0_10.c : Value) → f 1 = (.slice b1_11.a b1_11.n b1_11.c : Value) → f 2 = (.bool one2_3 : Value) → f 3 = (.bool both3_4 : Value) → f 4 = (.bool two4_5 : Value) → f 11 = (.slice out11_55.a out11_55.n out11_55.c : Value) → F62_j5 a0_10 b1_11 next10 out11_55 w_56 → WK K55 89 f w_56 := by
                    intro f out11_55 w_56 e0 e1 e2 e3 e4 e11 h
                    refine y_atf (upd_id (upd_id (upd_id (upd_id (upd_id (upd_id rfl e0) e1) e2) e3) e4) e11) ?_
                    clear e0 e1 e2 e3 e4 e11
                    unfold F62_j5 at h
                    refine hK55 _ _ ?_
                    refine y_region ?_
                    refine y_k (.slice b1_11.a b1_11.n b1_11.c : Value) w_56 rfl rfl rfl (by kernel_rfl) ?_
                    obtain ⟨t87_57, hx60, h⟩ := h
                    refine y_v (s := Instr.sliceAt 22 (.slice b1_11.a b1_11.n b1_11.c : Value) (some (.int .i64 1 : Value)) none none) rfl rfl rfl (by kernel_rfl) (hx60) ?_
                    refine y_k (.slice t87_57.a t87_57.n t87_57.c : Value) w_56 rfl rfl rfl (by kernel_rfl) ?_
                    refine y_nil ?_
                    refine e_block_n ?_
                    refine e_block_n ?_
                    refine y_then (hN11 (a0_10, t87_57, out11_55) _ _ h ?_)
                    dsimp only
                    refine upd_id ?_ rfl
                    refine upd_id ?_ rfl
                    refine upd_id ?_ rfl
                    refine upd_id ?_ rfl
                    refine upd_id ?_ rfl
                    refine upd_id ?_ rfl
                    rfl
                  refine y_seq fun K56 hK56 => ?_
                  refine y_region ?_
                  refine y_k (.bool two4_5 : Value) w_49 rfl rfl rfl (by kernel_rfl) ?_
                  refine y_nil ?_
                  refine y_then (hK56 _ _ ?_)
                  refine y_cond (two4_5) rfl rfl (fun hb61 => ?_) (fun hb61 => ?_)
                  · replace h := h.1 (hb61)
                    refine y_region ?_
                    refine y_k (.slice out11_12.a out11_12.n out11_12.c : Value) w_49 rfl rfl rfl (by kernel_rfl) ?_
                    refine y_k (.slice b1_11.a b1_11.n b1_11.c : Value) w_49 rfl rfl rfl (by kernel_rfl) ?_
                    obtain ⟨hx57a, hx57b, a_50, hx57, h⟩ := h
                    refine y_v (v := (.pointer (some (a_50.add (Int.toNat 0))) : Value)) (s := Instr.indexAt 22 (.slice b1_11.a b1_11.n b1_11.c : Value) (.int .i64 0 : Value)) rfl rfl rfl (by kernel_rfl) (run_ixs1 (el := 23) (by kernel_rfl) (by kernel_rfl) hx57 hx57a hx57b) ?_
                    obtain ⟨t83_51, hx58, h⟩ := h
                    refine y_v (s := Instr.loadAt 23 (.pointer (some (a_50.add (Int.toNat 0))))) rfl rfl rfl (by kernel_rfl) (rn_load (by kernel_rfl) hx58) ?_
                    refine y_k (.slice (some ⟨w_49.heap.size, 0, none⟩) 1 1 : Value) (w_49.alloc (.cells #[.int .u32 t83_51] 23)) rfl rfl rfl (by kernel_rfl) ?_
                    replace h := h _ rfl
                    generalize w_49.alloc (.cells #[.int .u32 t83_51] 23) = w_52 at h ⊢
                    obtain ⟨t85_53, w_54, hx59, h⟩ := h
                    refine y_v (s := Builtin.append_ #[22, 22] 22 #[.slice out11_12.a out11_12.n out11_12.c, .slice (some ⟨w_49.heap.size, 0, none⟩) 1 1]) rfl rfl rfl (by kernel_rfl) hx59 ?_
                    refine y_k (.slice t85_53.a t85_53.n t85_53.c : Value) w_54 rfl rfl rfl (by kernel_rfl) ?_
                    refine y_nil ?_
                    exact y_then (hjK55 _ t85_53 w_54 rfl rfl rfl rfl rfl rfl h)
                  · replace h := h.2 (hb61)
                    refine y_skip ?_
                    exact y_then (hjK55 _ out11_12 w_49 rfl rfl rfl rfl rfl rfl h)
                · replace h := h.2 (of_decide_eq_false hb72)
                  refine y_seq fun K62 hK62 => ?_
                  have hjK62 : ∀ (f : Fr) (out11_63 : Sl) (w_64 : World), f 0 = (.slice a0_10.a a0_10.n a0_10.c : Value) → f 1 = (.slice b1_11.a b1_11.n b1_11.c : Value) → f 2 = (.bool one2_3 : Value) → f 3 = (.bool both3_4 : Value) → f 4 = (.bool two4_5 : Value) → f 11 = (.slice out11_63.a out11_63.n out11_63.c : Value) → F62_j6 a0_10 b1_11 next10 out11_63 w_64 → WK K62 89 f w_64 := by
                    intro f out11_63 w_64 e0 e1 e2 e3 e4 e11 h
                    refine y_atf (upd_id (upd_id (upd_id (upd_id (upd_id (upd_id rfl e0) e1) e2) e3) e4) e11) ?_
                    clear e0 e1 e2 e3 e4 e11
                    unfold F62_j6 at h
                    refine hK62 _ _ ?_
                    refine q_region (by kernel_rfl) (by kernel_rfl) fun Qq67 hQq67 => ?_
                    refine q_k (.slice a0_10.a a0_10.n a0_10.c : Value) rfl rfl rfl (fun _ => by kernel_rfl) ?_
                    obtain ⟨t36_65, hx68, h⟩ := h
                    refine q_v (v := (.slice t36_65.a t36_65.n t36_65.c : Value)) (s := Instr.sliceAt 22 (.slice a0_10.a a0_10.n a0_10.c : Value) (some (.int .i64 1 : Value)) none none) rfl rfl rfl (by kernel_rfl) (fun _ => (hx68 _)) ?_
                    refine q_k (.slice b1_11.a b1_11.n b1_11.c : Value) rfl rfl rfl (fun _ => by kernel_rfl) ?_
                    obtain ⟨t38_66, hx69, h⟩ := h
                    refine q_v (v := (.slice t38_66.a t38_66.n t38_66.c : Value)) (s := Instr.sliceAt 22 (.slice b1_11.a b1_11.n b1_11.c : Value) (some (.int .i64 1 : Value)) none none) rfl rfl rfl (by kernel_rfl) (fun _ => (hx69 _)) ?_
                    refine q_k (.slice t36_65.a t36_65.n t36_65.c : Value) rfl rfl rfl (fun _ => by kernel_rfl) ?_
                    refine q_k (.slice t38_66.a t38_66.n t38_66.c : Value) rfl rfl rfl (fun _ => by kernel_rfl) ?_
                    refine q_nil (hQq67 _ fun m70 => ?_)
                    replace h := h _ ⟨m70, rfl⟩
                    generalize w_64.drewN m70 = w_67 at h ⊢
                    refine e_block_n ?_
                    refine e_block_n ?_
                    refine y_then (hN11 (t36_65, t38_66, out11_63) _ _ h ?_)
                    dsimp only
                    refine upd_id ?_ rfl
                    refine upd_id ?_ rfl
                    refine upd_id ?_ rfl
                    refine upd_id ?_ rfl
                    refine upd_id ?_ rfl
                    refine upd_id ?_ rfl
                    rfl
                  refine y_seq fun K63 hK63 => ?_
                  refine y_region ?_
                  refine y_k (.bool both3_4 : Value) w_49 rfl rfl rfl (by kernel_rfl) ?_
                  refine y_nil ?_
                  refine y_then (hK63 _ _ ?_)
                  refine y_cond (both3_4) rfl rfl (fun hb71 => ?_) (fun hb71 => ?_)
                  · replace h := h.1 (hb71)
                    refine y_region ?_
                    refine y_k (.slice out11_12.a out11_12.n out11_12.c : Value) w_49 rfl rfl rfl (by kernel_rfl) ?_
                    refine y_k (.slice a0_10.a a0_10.n a0_10.c : Value) w_49 rfl rfl rfl (by kernel_rfl) ?_
                    obtain ⟨hx64a, hx64b, a_58, hx64, h⟩ := h
                    refine y_v (v := (.pointer (some (a_58.add (Int.toNat 0))) : Value)) (s := Instr.indexAt 22 (.slice a0_10.a a0_10.n a0_10.c : Value) (.int .i64 0 : Value)) rfl rfl rfl (by kernel_rfl) (run_ixs1 (el := 23) (by kernel_rfl) (by kernel_rfl) hx64 hx64a hx64b) ?_
                    obtain ⟨t32_59, hx65, h⟩ := h
                    refine y_v (s := Instr.loadAt 23 (.pointer (some (a_58.add (Int.toNat 0))))) rfl rfl rfl (by kernel_rfl) (rn_load (by kernel_rfl) hx65) ?_
                    refine y_k (.slice (some ⟨w_49.heap.size, 0, none⟩) 1 1 : Value) (w_49.alloc (.cells #[.int .u32 t32_59] 23)) rfl rfl rfl (by kernel_rfl) ?_
                    replace h := h _ rfl
                    generalize w_49.alloc (.cells #[.int .u32 t32_59] 23) = w_60 at h ⊢
                    obtain ⟨t34_61, w_62, hx66, h⟩ := h
                    refine y_v (s := Builtin.append_ #[22, 22] 22 #[.slice out11_12.a out11_12.n out11_12.c, .slice (some ⟨w_49.heap.size, 0, none⟩) 1 1]) rfl rfl rfl (by kernel_rfl) hx66 ?_
                    refine y_k (.slice t34_61.a t34_61.n t34_61.c : Value) w_62 rfl rfl rfl (by kernel_rfl) ?_
                    refine y_nil ?_
                    exact y_then (hjK62 _ t34_61 w_62 rfl rfl rfl rfl rfl rfl h)
                  · replace h := h.2 (hb71)
                    refine y_skip ?_
                    exact y_then (hjK62 _ out11_12 w_49 rfl rfl rfl rfl rfl rfl h)
          · replace h := h.2 (of_decide_eq_false hb28)
            refine q_frame (upd_id (i := 47) (v := .bool false) rfl (congrArg Value.bool hb28)) ?_
            refine q_gno rfl rfl rfl rfl ?_
            refine q_gno rfl rfl rfl rfl ?_
            refine q_gno rfl rfl rfl rfl ?_
            refine q_gno rfl rfl rfl rfl ?_
            refine q_gno rfl rfl rfl rfl ?_
            refine q_gno rfl rfl rfl rfl ?_
            refine q_gno rfl rfl rfl rfl ?_
            refine q_gyes rfl rfl rfl ?_
            refine q_k (.bool false : Value) rfl rfl rfl (fun _ => by kernel_rfl) ?_
            refine q_k (.bool false : Value) rfl rfl rfl (fun _ => by kernel_rfl) ?_
            refine q_k (.bool false : Value) rfl rfl rfl (fun _ => by kernel_rfl) ?_
            refine q_nil (hQq18 _ fun m110 => ?_)
            replace h := h _ ⟨m110, rfl⟩
            generalize w_13.drewN m110 = w_68 at h ⊢
            refine y_then (hK17 _ _ ?_)
            refine y_cond_f rfl rfl ?_
            refine y_seq fun K76 hK76 => ?_
            refine q_region (by kernel_rfl) (by kernel_rfl) fun Qq77 hQq77 => ?_
            refine q_k (.slice a0_10.a a0_10.n a0_10.c : Value) rfl rfl rfl (fun _ => by kernel_rfl) ?_
            refine q_k (.int .i64 ((a0_10.n : Int)) : Value) rfl rfl rfl (fun _ => by kernel_rfl) ?_
            refine q_k (.bool (((((a0_10.n : Int))) == 0)) : Value) rfl rfl rfl (fun _ => by kernel_rfl) ?_
            refine q_k (.bool (((((a0_10.n : Int))) == 0)) : Value) rfl rfl rfl (fun _ => by kernel_rfl) ?_
            refine q_fork (((((a0_10.n : Int))) == 0)) (fun hb78 => ?_) (fun hb78 => ?_)
            · replace h := h.1 (eq_of_beq hb78)
              refine q_frame (upd_id (i := 70) (v := .bool true) rfl (congrArg Value.bool hb78)) ?_
              refine q_gno rfl rfl rfl rfl ?_
              refine q_gno rfl rfl rfl rfl ?_
              refine q_gno rfl rfl rfl rfl ?_
              refine q_gno rfl rfl rfl rfl ?_
              refine q_gno rfl rfl rfl rfl ?_
              refine q_gno rfl rfl rfl rfl ?_
              refine q_gno rfl rfl rfl rfl ?_
              refine q_k (.bool true : Value) rfl rfl rfl (fun _ => by kernel_rfl) ?_
              refine q_k (.bool true : Value) rfl rfl rfl (fun _ => by kernel_rfl) ?_
              refine q_nil (hQq77 _ fun m86 => ?_)
              replace h := h _ ⟨m86, rfl⟩
              generalize w_68.drewN m86 = w_69 at h ⊢
              refine y_then (hK76 _ _ ?_)
              refine y_cond_t rfl rfl ?_
              refine y_seq fun K79 hK79 => ?_
              have hjK79 : ∀ (f : Fr) (out11_75 : Sl) (w_76 : World), f 0 = (.slice a0_10.a a0_10.n a0_10.c : Value) → f 1 = (.slice b1_11.a b1_11.n b1_11.c : Value) → f 2 = (.bool one2_3 : Value) → f 3 = (.bool both3_4 : Value) → f 4 = (.bool two4_5 : Value) → f 11 = (.slice out11_75.a out11_75.n out11_75.c : Value) → F62_j7 a0_10 b1_11 next10 out11_75 w_76 → WK K79 89 f w_76 := by
                intro f out11_75 w_76 e0 e1 e2 e3 e4 e11 h
                refine y_atf (upd_id (upd_id (upd_id (upd_id (upd_id (upd_id rfl e0) e1) e2) e3) e4) e11) ?_
                clear e0 e1 e2 e3 e4 e11
                unfold F62_j7 at h
                refine hK79 _ _ ?_
                refine y_region ?_
                refine y_k (.slice b1_11.a b1_11.n b1_11.c : Value) w_76 rfl rfl rfl (by kernel_rfl) ?_
                obtain ⟨t87_77, hx84, h⟩ := h
                refine y_v (s := Instr.sliceAt 22 (.slice b1_11.a b1_11.n b1_11.c : Value) (some (.int .i64 1 : Value)) none none) rfl rfl rfl (by kernel_rfl) (hx84) ?_
                refine y_k (.slice t87_77.a t87_77.n t87_77.c : Value) w_76 rfl rfl rfl (by kernel_rfl) ?_
                refine y_nil ?_
                refine e_block_n ?_
                refine e_block_n ?_
                refine y_then (hN11 (a0_10, t87_77, out11_75) _ _ h ?_)
                dsimp only
                refine upd_id ?_ rfl
                refine upd_id ?_ rfl
                refine upd_id ?_ rfl
                refine upd_id ?_ rfl
                refine upd_id ?_ rfl
                refine upd_id ?_ rfl
                rfl
              refine y_seq fun K80 hK80 => ?_
              refine y_region ?_
              refine y_k (.bool two4_5 : Value) w_69 rfl rfl rfl (by kernel_rfl) ?_
              refine y_nil ?_
              refine y_then (hK80 _ _ ?_)
              refine y_cond (two4_5) rfl rfl (fun hb85 => ?_) (fun hb85 => ?_)
              · replace h := h.1 (hb85)
                refine y_region ?_
                refine y_k (.slice out11_12.a out11_12.n out11_12.c : Value) w_69 rfl rfl rfl (by kernel_rfl) ?_
                refine y_k (.slice b1_11.a b1_11.n b1_11.c : Value) w_69 rfl rfl rfl (by kernel_rfl) ?_
                obtain ⟨hx81a, hx81b, a_70, hx81, h⟩ := h
                refine y_v (v := (.pointer (some (a_70.add (Int.toNat 0))) : Value)) (s := Instr.indexAt 22 (.slice b1_11.a b1_11.n b1_11.c : Value) (.int .i64 0 : Value)) rfl rfl rfl (by kernel_rfl) (run_ixs1 (el := 23) (by kernel_rfl) (by kernel_rfl) hx81 hx81a hx81b) ?_
                obtain ⟨t83_71, hx82, h⟩ := h
                refine y_v (s := Instr.loadAt 23 (.pointer (some (a_70.add (Int.toNat 0))))) rfl rfl rfl (by kernel_rfl) (rn_load (by kernel_rfl) hx82) ?_
                refine y_k (.slice (some ⟨w_69.heap.size, 0, none⟩) 1 1 : Value) (w_69.alloc (.cells #[.int .u32 t83_71] 23)) rfl rfl rfl (by kernel_rfl) ?_
                replace h := h _ rfl
                generalize w_69.alloc (.cells #[.int .u32 t83_71] 23) = w_72 at h ⊢
                obtain ⟨t85_73, w_74, hx83, h⟩ := h
                refine y_v (s := Builtin.append_ #[22, 22] 22 #[.slice out11_12.a out11_12.n out11_12.c, .slice (some ⟨w_69.heap.size, 0, none⟩) 1 1]) rfl rfl rfl (by kernel_rfl) hx83 ?_
                refine y_k (.slice t85_73.a t85_73.n t85_73.c : Value) w_74 rfl rfl rfl (by kernel_rfl) ?_
                refine y_nil ?_
                exact y_then (hjK79 _ t85_73 w_74 rfl rfl rfl rfl rfl rfl h)
              · replace h := h.2 (hb85)
                refine y_skip ?_
                exact y_then (hjK79 _ out11_12 w_69 rfl rfl rfl rfl rfl rfl h)
            · replace h := h.2 (beq_eq_false_iff_ne.mp hb78)
              refine q_frame (upd_id (i := 70) (v := .bool false) rfl (congrArg Value.bool hb78)) ?_
              refine q_gyes rfl rfl rfl ?_
              refine q_k (.slice b1_11.a b1_11.n b1_11.c : Value) rfl rfl rfl (fun _ => by kernel_rfl) ?_
              refine q_gyes rfl rfl rfl ?_
              obtain ⟨hx87a, hx87b, a_78, hx87, h⟩ := h
              refine q_v (v := (.pointer (some (a_78.add (Int.toNat 0))) : Value)) (s := Instr.indexAt 22 (.slice b1_11.a b1_11.n b1_11.c : Value) (.int .i64 0 : Value)) rfl rfl rfl (by kernel_rfl) (fun _ => run_ixs1 (el := 23) (by kernel_rfl) (by kernel_rfl) hx87 hx87a hx87b) ?_
              refine q_gyes rfl rfl rfl ?_
              obtain ⟨t73_79, hx88, h⟩ := h
              refine q_v (v := (.int .u32 t73_79 : Value)) (s := Instr.loadAt 23 (.pointer (some (a_78.add (Int.toNat 0))))) rfl rfl rfl (by kernel_rfl) (fun _ => rn_load (by kernel_rfl) hx88) ?_
              refine q_gyes rfl rfl rfl ?_
              refine q_k (.slice a0_10.a a0_10.n a0_10.c : Value) rfl rfl rfl (fun _ => by kernel_rfl) ?_
              refine q_gyes rfl rfl rfl ?_
              obtain ⟨hx89a, hx89b, a_80, hx89, h⟩ := h
              refine q_v (v := (.pointer (some (a_80.add (Int.toNat 0))) : Value)) (s := Instr.indexAt 22 (.slice a0_10.a a0_10.n a0_10.c : Value) (.int .i64 0 : Value)) rfl rfl rfl (by kernel_rfl) (fun _ => run_ixs1 (el := 23) (by kernel_rfl) (by kernel_rfl) hx89 hx89a hx89b) ?_
              refine q_gyes rfl rfl rfl ?_
              obtain ⟨t76_81, hx90, h⟩ := h
              refine q_v (v := (.int .u32 t76_81 : Value)) (s := Instr.loadAt 23 (.pointer (some (a_80.add (Int.toNat 0))))) rfl rfl rfl (by kernel_rfl) (fun _ => rn_load (by kernel_rfl) hx90) ?_
              refine q_gyes rfl rfl rfl ?_
              refine q_k (.bool (decide (t73_79 < t76_81)) : Value) rfl rfl rfl (fun _ => by kernel_rfl) ?_
              refine q_k (.bool (decide (t73_79 < t76_81)) : Value) rfl rfl rfl (fun _ => by kernel_rfl) ?_
              refine q_k (.bool (decide (t73_79 < t76_81)) : Value) rfl rfl rfl (fun _ => by kernel_rfl) ?_
              refine q_nil (hQq77 _ fun m109 => ?_)
              replace h := h _ ⟨m109, rfl⟩
              generalize w_68.drewN m109 = w_82 at h ⊢
              refine y_then (hK76 _ _ ?_)
              refine y_cond (decide (t73_79 < t76_81)) rfl rfl (fun hb108 => ?_) (fun hb108 => ?_)
              · replace h := h.1 (of_decide_eq_true hb108)
                refine y_seq fun K91 hK91 => ?_
                have hjK91 : ∀ (f : Fr) (out11_88 : Sl) (w_89 : World), f 0 = (.slice a0_10.a a0_10.n a0_10.c : Value) → f 1 = (.slice b1_11.a b1_11.n b1_11.c : Value) → f 2 = (.bool one2_3 : Value) → f 3 = (.bool both3_4 : Value) → f 4 = (.bool two4_5 : Value) → f 11 = (.slice out11_88.a out11_88.n out11_88.c : Value) → F62_j8 a0_10 b1_11 next10 out11_88 w_89 → WK K91 89 f w_89 := by
                  intro f out11_88 w_89 e0 e1 e2 e3 e4 e11 h
                  refine y_atf (upd_id (upd_id (upd_id (upd_id (upd_id (upd_id rfl e0) e1) e2) e3) e4) e11) ?_
                  clear e0 e1 e2 e3 e4 e11
                  unfold F62_j8 at h
                  refine hK91 _ _ ?_
                  refine y_region ?_
                  refine y_k (.slice b1_11.a b1_11.n b1_11.c : Value) w_89 rfl rfl rfl (by kernel_rfl) ?_
                  obtain ⟨t87_90, hx96, h⟩ := h
                  refine y_v (s := Instr.sliceAt 22 (.slice b1_11.a b1_11.n b1_11.c : Value) (some (.int .i64 1 : Value)) none none) rfl rfl rfl (by kernel_rfl) (hx96) ?_
                  refine y_k (.slice t87_90.a t87_90.n t87_90.c : Value) w_89 rfl rfl rfl (by kernel_rfl) ?_
                  refine y_nil ?_
                  refine e_block_n ?_
                  refine e_block_n ?_
                  refine y_then (hN11 (a0_10, t87_90, out11_88) _ _ h ?_)
                  dsimp only
                  refine upd_id ?_ rfl
                  refine upd_id ?_ rfl
                  refine upd_id ?_ rfl
                  refine upd_id ?_ rfl
                  refine upd_id ?_ rfl
                  refine upd_id ?_ rfl
                  rfl
                refine y_seq fun K92 hK92 => ?_
                refine y_region ?_
                refine y_k (.bool two4_5 : Value) w_82 rfl rfl rfl (by kernel_rfl) ?_
                refine y_nil ?_
                refine y_then (hK92 _ _ ?_)
                refine y_cond (two4_5) rfl rfl (fun hb97 => ?_) (fun hb97 => ?_)
                · replace h := h.1 (hb97)
                  refine y_region ?_
                  refine y_k (.slice out11_12.a out11_12.n out11_12.c : Value) w_82 rfl rfl rfl (by kernel_rfl) ?_
                  refine y_k (.slice b1_11.a b1_11.n b1_11.c : Value) w_82 rfl rfl rfl (by kernel_rfl) ?_
                  obtain ⟨hx93a, hx93b, a_83, hx93, h⟩ := h
                  refine y_v (v := (.pointer (some (a_83.add (Int.toNat 0))) : Value)) (s := Instr.indexAt 22 (.slice b1_11.a b1_11.n b1_11.c : Value) (.int .i64 0 : Value)) rfl rfl rfl (by kernel_rfl) (run_ixs1 (el := 23) (by kernel_rfl) (by kernel_rfl) hx93 hx93a hx93b) ?_
                  obtain ⟨t83_84, hx94, h⟩ := h
                  refine y_v (s := Instr.loadAt 23 (.pointer (some (a_83.add (Int.toNat 0))))) rfl rfl rfl (by kernel_rfl) (rn_load (by kernel_rfl) hx94) ?_
                  refine y_k (.slice (some ⟨w_82.heap.size, 0, none⟩) 1 1 : Value) (w_82.alloc (.cells #[.int .u32 t83_84] 23)) rfl rfl rfl (by kernel_rfl) ?_
                  replace h := h _ rfl
                  generalize w_82.alloc (.cells #[.int .u32 t83_84] 23) = w_85 at h ⊢
                  obtain ⟨t85_86, w_87, hx95, h⟩ := h
                  refine y_v (s := Builtin.append_ #[22, 22] 22 #[.slice out11_12.a out11_12.n out11_12.c, .slice (some ⟨w_82.heap.size, 0, none⟩) 1 1]) rfl rfl rfl (by kernel_rfl) hx95 ?_
                  refine y_k (.slice t85_86.a t85_86.n t85_86.c : Value) w_87 rfl rfl rfl (by kernel_rfl) ?_
                  refine y_nil ?_
                  exact y_then (hjK91 _ t85_86 w_87 rfl rfl rfl rfl rfl rfl h)
                · replace h := h.2 (hb97)
                  refine y_skip ?_
                  exact y_then (hjK91 _ out11_12 w_82 rfl rfl rfl rfl rfl rfl h)
              · replace h := h.2 (of_decide_eq_false hb108)
                refine y_seq fun K98 hK98 => ?_
                have hjK98 : ∀ (f : Fr) (out11_96 : Sl) (w_97 : World), f 0 = (.slice a0_10.a a0_10.n a0_10.c : Value) → f 1 = (.slice b1_11.a b1_11.n b1_11.c : Value) → f 2 = (.bool one2_3 : Value) → f 3 = (.bool both3_4 : Value) → f 4 = (.bool two4_5 : Value) → f 11 = (.slice out11_96.a out11_96.n out11_96.c : Value) → F62_j9 a0_10 b1_11 next10 out11_96 w_97 → WK K98 89 f w_97 := by
                  intro f out11_96 w_97 e0 e1 e2 e3 e4 e11 h
                  refine y_atf (upd_id (upd_id (upd_id (upd_id (upd_id (upd_id rfl e0) e1) e2) e3) e4) e11) ?_
                  clear e0 e1 e2 e3 e4 e11
                  unfold F62_j9 at h
                  refine hK98 _ _ ?_
                  refine q_region (by kernel_rfl) (by kernel_rfl) fun Qq103 hQq103 => ?_
                  refine q_k (.slice a0_10.a a0_10.n a0_10.c : Value) rfl rfl rfl (fun _ => by kernel_rfl) ?_
                  obtain ⟨t36_98, hx104, h⟩ := h
                  refine q_v (v := (.slice t36_98.a t36_98.n t36_98.c : Value)) (s := Instr.sliceAt 22 (.slice a0_10.a a0_10.n a0_10.c : Value) (some (.int .i64 1 : Value)) none none) rfl rfl rfl (by kernel_rfl) (fun _ => (hx104 _)) ?_
                  refine q_k (.slice b1_11.a b1_11.n b1_11.c : Value) rfl rfl rfl (fun _ => by kernel_rfl) ?_
                  obtain ⟨t38_99, hx105, h⟩ := h
                  refine q_v (v := (.slice t38_99.a t38_99.n t38_99.c : Value)) (s := Instr.sliceAt 22 (.slice b1_11.a b1_11.n b1_11.c : Value) (some (.int .i64 1 : Value)) none none) rfl rfl rfl (by kernel_rfl) (fun _ => (hx105 _)) ?_
                  refine q_k (.slice t36_98.a t36_98.n t36_98.c : Value) rfl rfl rfl (fun _ => by kernel_rfl) ?_
                  refine q_k (.slice t38_99.a t38_99.n t38_99.c : Value) rfl rfl rfl (fun _ => by kernel_rfl) ?_
                  refine q_nil (hQq103 _ fun m106 => ?_)
                  replace h := h _ ⟨m106, rfl⟩
                  generalize w_97.drewN m106 = w_100 at h ⊢
                  refine e_block_n ?_
                  refine e_block_n ?_
                  refine y_then (hN11 (t36_98, t38_99, out11_96) _ _ h ?_)
                  dsimp only
                  refine upd_id ?_ rfl
                  refine upd_id ?_ rfl
                  refine upd_id ?_ rfl
                  refine upd_id ?_ rfl
                  refine upd_id ?_ rfl
                  refine upd_id ?_ rfl
                  rfl
                refine y_seq fun K99 hK99 => ?_
                refine y_region ?_
                refine y_k (.bool both3_4 : Value) w_82 rfl rfl rfl (by kernel_rfl) ?_
                refine y_nil ?_
                refine y_then (hK99 _ _ ?_)
                refine y_cond (both3_4) rfl rfl (fun hb107 => ?_) (fun hb107 => ?_)
                · replace h := h.1 (hb107)
                  refine y_region ?_
                  refine y_k (.slice out11_12.a out11_12.n out11_12.c : Value) w_82 rfl rfl rfl (by kernel_rfl) ?_
                  refine y_k (.slice a0_10.a a0_10.n a0_10.c : Value) w_82 rfl rfl rfl (by kernel_rfl) ?_
                  obtain ⟨hx100a, hx100b, a_91, hx100, h⟩ := h
                  refine y_v (v := (.pointer (some (a_91.add (Int.toNat 0))) : Value)) (s := Instr.indexAt 22 (.slice a0_10.a a0_10.n a0_10.c : Value) (.int .i64 0 : Value)) rfl rfl rfl (by kernel_rfl) (run_ixs1 (el := 23) (by kernel_rfl) (by kernel_rfl) hx100 hx100a hx100b) ?_
                  obtain ⟨t32_92, hx101, h⟩ := h
                  refine y_v (s := Instr.loadAt 23 (.pointer (some (a_91.add (Int.toNat 0))))) rfl rfl rfl (by kernel_rfl) (rn_load (by kernel_rfl) hx101) ?_
                  refine y_k (.slice (some ⟨w_82.heap.size, 0, none⟩) 1 1 : Value) (w_82.alloc (.cells #[.int .u32 t32_92] 23)) rfl rfl rfl (by kernel_rfl) ?_
                  replace h := h _ rfl
                  generalize w_82.alloc (.cells #[.int .u32 t32_92] 23) = w_93 at h ⊢
                  obtain ⟨t34_94, w_95, hx102, h⟩ := h
                  refine y_v (s := Builtin.append_ #[22, 22] 22 #[.slice out11_12.a out11_12.n out11_12.c, .slice (some ⟨w_82.heap.size, 0, none⟩) 1 1]) rfl rfl rfl (by kernel_rfl) hx102 ?_
                  refine y_k (.slice t34_94.a t34_94.n t34_94.c : Value) w_95 rfl rfl rfl (by kernel_rfl) ?_
                  refine y_nil ?_
                  exact y_then (hjK98 _ t34_94 w_95 rfl rfl rfl rfl rfl rfl h)
                · replace h := h.2 (hb107)
                  refine y_skip ?_
                  exact y_then (hjK98 _ out11_12 w_82 rfl rfl rfl rfl rfl rfl h)
      · replace h := h.2 (of_decide_eq_false hb14)
        refine y_frame (upd_id (i := 23) (v := .bool false) rfl (congrArg Value.bool hb14)) ?_
        refine y_gyes rfl rfl rfl ?_
        refine y_k (.slice b1_11.a b1_11.n b1_11.c : Value) w_13 rfl rfl rfl (by kernel_rfl) ?_
        refine y_gyes rfl rfl rfl ?_
        refine y_k (.int .i64 ((b1_11.n : Int)) : Value) w_13 rfl rfl rfl (by kernel_rfl) ?_
        refine y_gyes rfl rfl rfl ?_
        refine y_k (.bool (decide (((b1_11.n : Int)) > 0)) : Value) w_13 rfl rfl rfl (by kernel_rfl) ?_
        refine y_k (.bool (decide (((b1_11.n : Int)) > 0)) : Value) w_13 rfl rfl rfl (by kernel_rfl) ?_
        refine y_nil ?_
        refine y_then (hK13 _ _ ?_)
        refine y_cond (decide (((b1_11.n : Int)) > 0)) rfl rfl (fun hb208 => ?_) (fun hb208 => ?_)
        · replace h := h.1 (of_decide_eq_true hb208)
          refine y_skip ?_
          refine y_then (hK12 _ _ ?_)
          refine y_block ?_
          refine y_block ?_
          refine y_seq fun K113 hK113 => ?_
          refine q_region (by kernel_rfl) (by kernel_rfl) fun Qq114 hQq114 => ?_
          refine q_k (.slice b1_11.a b1_11.n b1_11.c : Value) rfl rfl rfl (fun _ => by kernel_rfl) ?_
          refine q_k (.int .i64 ((b1_11.n : Int)) : Value) rfl rfl rfl (fun _ => by kernel_rfl) ?_
          refine q_k (.bool (((((b1_11.n : Int))) == 0)) : Value) rfl rfl rfl (fun _ => by kernel_rfl) ?_
          refine q_k (.bool (((((b1_11.n : Int))) == 0)) : Value) rfl rfl rfl (fun _ => by kernel_rfl) ?_
          refine q_fork (((((b1_11.n : Int))) == 0)) (fun hb115 => ?_) (fun hb115 => ?_)
          · replace h := h.1 (eq_of_beq hb115)
            refine q_frame (upd_id (i := 43) (v := .bool true) rfl (congrArg Value.bool hb115)) ?_
            refine q_gno rfl rfl rfl rfl ?_
            refine q_gno rfl rfl rfl rfl ?_
            refine q_gno rfl rfl rfl rfl ?_
            refine q_gno rfl rfl rfl rfl ?_
            refine q_gud rfl rfl rfl rfl ?_
            refine q_gud rfl rfl rfl rfl ?_
            refine q_gud rfl rfl rfl rfl ?_
            refine q_gud rfl rfl rfl rfl ?_
            refine q_gud rfl rfl rfl rfl ?_
            refine q_gud rfl rfl rfl rfl ?_
            refine q_gud rfl rfl rfl rfl ?_
            refine q_gno rfl rfl rfl rfl ?_
            refine q_k (.bool true : Value) rfl rfl rfl (fun _ => by kernel_rfl) ?_
            refine q_k (.bool true : Value) rfl rfl rfl (fun _ => by kernel_rfl) ?_
            refine q_nil (hQq114 _ fun m123 => ?_)
            replace h := h _ ⟨m123, rfl⟩
            generalize w_13.drewN m123 = w_101 at h ⊢
            refine y_then (hK113 _ _ ?_)
            refine y_cond_t rfl rfl ?_
            refine y_seq fun K116 hK116 => ?_
            have hjK116 : ∀ (f : Fr) (out11_107 : Sl) (w_108 : World), f 0 = (.slice a0_10.a a0_10.n a0_10.c : Value) → f 1 = (.slice b1_11.a b1_11.n b1_11.c : Value) → f 2 = (.bool one2_3 : Value) → f 3 = (.bool both3_4 : Value) → f 4 = (.bool two4_5 : Value) → f 11 = (.slice out11_107.a out11_107.n out11_107.c : Value) → F62_j10 a0_10 b1_11 next10 out11_107 w_108 → WK K116 89 f w_108 := by
              intro f out11_107 w_108 e0 e1 e2 e3 e4 e11 h
              refine y_atf (upd_id (upd_id (upd_id (upd_id (upd_id (upd_id rfl e0) e1) e2) e3) e4) e11) ?_
              clear e0 e1 e2 e3 e4 e11
              unfold F62_j10 at h
              refine hK116 _ _ ?_
              refine y_region ?_
              refine y_k (.slice a0_10.a a0_10.n a0_10.c : Value) w_108 rfl rfl rfl (by kernel_rfl) ?_
              obtain ⟨t65_109, hx121, h⟩ := h
              refine y_v (s := Instr.sliceAt 22 (.slice a0_10.a a0_10.n a0_10.c : Value) (some (.int .i64 1 : Value)) none none) rfl rfl rfl (by kernel_rfl) (hx121) ?_
              refine y_k (.slice t65_109.a t65_109.n t65_109.c : Value) w_108 rfl rfl rfl (by kernel_rfl) ?_
              refine y_nil ?_
              refine e_block_n ?_
              refine e_block_n ?_
              refine y_then (hN11 (t65_109, b1_11, out11_107) _ _ h ?_)
              dsimp only
              refine upd_id ?_ rfl
              refine upd_id ?_ rfl
              refine upd_id ?_ rfl
              refine upd_id ?_ rfl
              refine upd_id ?_ rfl
              refine upd_id ?_ rfl
              rfl
            refine y_seq fun K117 hK117 => ?_
            refine y_region ?_
            refine y_k (.bool one2_3 : Value) w_101 rfl rfl rfl (by kernel_rfl) ?_
            refine y_nil ?_
            refine y_then (hK117 _ _ ?_)
            refine y_cond (one2_3) rfl rfl (fun hb122 => ?_) (fun hb122 => ?_)
            · replace h := h.1 (hb122)
              refine y_region ?_
              refine y_k (.slice out11_12.a out11_12.n out11_12.c : Value) w_101 rfl rfl rfl (by kernel_rfl) ?_
              refine y_k (.slice a0_10.a a0_10.n a0_10.c : Value) w_101 rfl rfl rfl (by kernel_rfl) ?_
              obtain ⟨hx118a, hx118b, a_102, hx118, h⟩ := h
              refine y_v (v := (.pointer (some (a_102.add (Int.toNat 0))) : Value)) (s := Instr.indexAt 22 (.slice a0_10.a a0_10.n a0_10.c : Value) (.int .i64 0 : Value)) rfl rfl rfl (by kernel_rfl) (run_ixs1 (el := 23) (by kernel_rfl) (by kernel_rfl) hx118 hx118a hx118b) ?_
              obtain ⟨t61_103, hx119, h⟩ := h
              refine y_v (s := Instr.loadAt 23 (.pointer (some (a_102.add (Int.toNat 0))))) rfl rfl rfl (by kernel_rfl) (rn_load (by kernel_rfl) hx119) ?_
              refine y_k (.slice (some ⟨w_101.heap.size, 0, none⟩) 1 1 : Value) (w_101.alloc (.cells #[.int .u32 t61_103] 23)) rfl rfl rfl (by kernel_rfl) ?_
              replace h := h _ rfl
              generalize w_101.alloc (.cells #[.int .u32 t61_103] 23) = w_104 at h ⊢
              obtain ⟨t63_105, w_106, hx120, h⟩ := h
              refine y_v (s := Builtin.append_ #[22, 22] 22 #[.slice out11_12.a out11_12.n out11_12.c, .slice (some ⟨w_101.heap.size, 0, none⟩) 1 1]) rfl rfl rfl (by kernel_rfl) hx120 ?_
              refine y_k (.slice t63_105.a t63_105.n t63_105.c : Value) w_106 rfl rfl rfl (by kernel_rfl) ?_
              refine y_nil ?_
              exact y_then (hjK116 _ t63_105 w_106 rfl rfl rfl rfl rfl rfl h)
            · replace h := h.2 (hb122)
              refine y_skip ?_
              exact y_then (hjK116 _ out11_12 w_101 rfl rfl rfl rfl rfl rfl h)
          · replace h := h.2 (beq_eq_false_iff_ne.mp hb115)
            refine q_frame (upd_id (i := 43) (v := .bool false) rfl (congrArg Value.bool hb115)) ?_
            refine q_gyes rfl rfl rfl ?_
            refine q_k (.slice a0_10.a a0_10.n a0_10.c : Value) rfl rfl rfl (fun _ => by kernel_rfl) ?_
            refine q_gyes rfl rfl rfl ?_
            refine q_k (.int .i64 ((a0_10.n : Int)) : Value) rfl rfl rfl (fun _ => by kernel_rfl) ?_
            refine q_gyes rfl rfl rfl ?_
            refine q_k (.bool (decide (((a0_10.n : Int)) > 0)) : Value) rfl rfl rfl (fun _ => by kernel_rfl) ?_
            refine q_gyes rfl rfl rfl ?_
            refine q_k (.bool (decide (((a0_10.n : Int)) > 0)) : Value) rfl rfl rfl (fun _ => by kernel_rfl) ?_
            refine q_fork (decide (((a0_10.n : Int)) > 0)) (fun hb124 => ?_) (fun hb124 => ?_)
            · replace h := h.1 (of_decide_eq_true hb124)
              refine q_frame (upd_id (i := 47) (v := .bool true) rfl (congrArg Value.bool hb124)) ?_
              refine q_gyes rfl rfl rfl ?_
              refine q_k (.slice a0_10.a a0_10.n a0_10.c : Value) rfl rfl rfl (fun _ => by kernel_rfl) ?_
              refine q_gyes rfl rfl rfl ?_
              obtain ⟨hx125a, hx125b, a_110, hx125, h⟩ := h
              refine q_v (v := (.pointer (some (a_110.add (Int.toNat 0))) : Value)) (s := Instr.indexAt 22 (.slice a0_10.a a0_10.n a0_10.c : Value) (.int .i64 0 : Value)) rfl rfl rfl (by kernel_rfl) (fun _ => run_ixs1 (el := 23) (by kernel_rfl) (by kernel_rfl) hx125 hx125a hx125b) ?_
              refine q_gyes rfl rfl rfl ?_
              obtain ⟨t50_111, hx126, h⟩ := h
              refine q_v (v := (.int .u32 t50_111 : Value)) (s := Instr.loadAt 23 (.pointer (some (a_110.add (Int.toNat 0))))) rfl rfl rfl (by kernel_rfl) (fun _ => rn_load (by kernel_rfl) hx126) ?_
              refine q_gyes rfl rfl rfl ?_
              refine q_k (.slice b1_11.a b1_11.n b1_11.c : Value) rfl rfl rfl (fun _ => by kernel_rfl) ?_
              refine q_gyes rfl rfl rfl ?_
              obtain ⟨hx127a, hx127b, a_112, hx127, h⟩ := h
              refine q_v (v := (.pointer (some (a_112.add (Int.toNat 0))) : Value)) (s := Instr.indexAt 22 (.slice b1_11.a b1_11.n b1_11.c : Value) (.int .i64 0 : Value)) rfl rfl rfl (by kernel_rfl) (fun _ => run_ixs1 (el := 23) (by kernel_rfl) (by kernel_rfl) hx127 hx127a hx127b) ?_
              refine q_gyes rfl rfl rfl ?_
              obtain ⟨t53_113, hx128, h⟩ := h
              refine q_v (v := (.int .u32 t53_113 : Value)) (s := Instr.loadAt 23 (.pointer (some (a_112.add (Int.toNat 0))))) rfl rfl rfl (by kernel_rfl) (fun _ => rn_load (by kernel_rfl) hx128) ?_
              refine q_gyes rfl rfl rfl ?_
              refine q_k (.bool (decide (t50_111 < t53_113)) : Value) rfl rfl rfl (fun _ => by kernel_rfl) ?_
              refine q_gyes rfl rfl rfl ?_
              refine q_k (.bool (decide (t50_111 < t53_113)) : Value) rfl rfl rfl (fun _ => by kernel_rfl) ?_
              refine q_k (.bool (decide (t50_111 < t53_113)) : Value) rfl rfl rfl (fun _ => by kernel_rfl) ?_
              refine q_k (.bool (decide (t50_111 < t53_113)) : Value) rfl rfl rfl (fun _ => by kernel_rfl) ?_
              refine q_nil (hQq114 _ fun m171 => ?_)
              replace h := h _ ⟨m171, rfl⟩
              generalize w_13.drewN m171 = w_114 at h ⊢
              refine y_then (hK113 _ _ ?_)
              refine y_cond (decide (t50_111 < t53_113)) rfl rfl (fun hb170 => ?_) (fun hb170 => ?_)
              · replace h := h.1 (of_decide_eq_true hb170)
                refine y_seq fun K129 hK129 => ?_
                have hjK129 : ∀ (f : Fr) (out11_120 : Sl) (w_121 : World), f 0 = (.slice a0_10.a a0_10.n a0_10.c : Value) → f 1 = (.slice b1_11.a b1_11.n b1_11.c : Value) → f 2 = (.bool one2_3 : Value) → f 3 = (.bool both3_4 : Value) → f 4 = (.bool two4_5 : Value) → f 11 = (.slice out11_120.a out11_120.n out11_120.c : Value) → F62_j11 a0_10 b1_11 next10 out11_120 w_121 → WK K129 89 f w_121 := by
                  intro f out11_120 w_121 e0 e1 e2 e3 e4 e11 h
                  refine y_atf (upd_id (upd_id (upd_id (upd_id (upd_id (upd_id rfl e0) e1) e2) e3) e4) e11) ?_
                  clear e0 e1 e2 e3 e4 e11
                  unfold F62_j11 at h
                  refine hK129 _ _ ?_
                  refine y_region ?_
                  refine y_k (.slice a0_10.a a0_10.n a0_10.c : Value) w_121 rfl rfl rfl (by kernel_rfl) ?_
                  obtain ⟨t65_122, hx134, h⟩ := h
                  refine y_v (s := Instr.sliceAt 22 (.slice a0_10.a a0_10.n a0_10.c : Value) (some (.int .i64 1 : Value)) none none) rfl rfl rfl (by kernel_rfl) (hx134) ?_
                  refine y_k (.slice t65_122.a t65_122.n t65_122.c : Value) w_121 rfl rfl rfl (by kernel_rfl) ?_
                  refine y_nil ?_
                  refine e_block_n ?_
                  refine e_block_n ?_
                  refine y_then (hN11 (t65_122, b1_11, out11_120) _ _ h ?_)
                  dsimp only
                  refine upd_id ?_ rfl
                  refine upd_id ?_ rfl
                  refine upd_id ?_ rfl
                  refine upd_id ?_ rfl
                  refine upd_id ?_ rfl
                  refine upd_id ?_ rfl
                  rfl
                refine y_seq fun K130 hK130 => ?_
                refine y_region ?_
                refine y_k (.bool one2_3 : Value) w_114 rfl rfl rfl (by kernel_rfl) ?_
                refine y_nil ?_
                refine y_then (hK130 _ _ ?_)
                refine y_cond (one2_3) rfl rfl (fun hb135 => ?_) (fun hb135 => ?_)
                · replace h := h.1 (hb135)
                  refine y_region ?_
                  refine y_k (.slice out11_12.a out11_12.n out11_12.c : Value) w_114 rfl rfl rfl (by kernel_rfl) ?_
                  refine y_k (.slice a0_10.a a0_10.n a0_10.c : Value) w_114 rfl rfl rfl (by kernel_rfl) ?_
                  obtain ⟨hx131a, hx131b, a_115, hx131, h⟩ := h
                  refine y_v (v := (.pointer (some (a_115.add (Int.toNat 0))) : Value)) (s := Instr.indexAt 22 (.slice a0_10.a a0_10.n a0_10.c : Value) (.int .i64 0 : Value)) rfl rfl rfl (by kernel_rfl) (run_ixs1 (el := 23) (by kernel_rfl) (by kernel_rfl) hx131 hx131a hx131b) ?_
                  obtain ⟨t61_116, hx132, h⟩ := h
                  refine y_v (s := Instr.loadAt 23 (.pointer (some (a_115.add (Int.toNat 0))))) rfl rfl rfl (by kernel_rfl) (rn_load (by kernel_rfl) hx132) ?_
                  refine y_k (.slice (some ⟨w_114.heap.size, 0, none⟩) 1 1 : Value) (w_114.alloc (.cells #[.int .u32 t61_116] 23)) rfl rfl rfl (by kernel_rfl) ?_
                  replace h := h _ rfl
                  generalize w_114.alloc (.cells #[.int .u32 t61_116] 23) = w_117 at h ⊢
                  obtain ⟨t63_118, w_119, hx133, h⟩ := h
                  refine y_v (s := Builtin.append_ #[22, 22] 22 #[.slice out11_12.a out11_12.n out11_12.c, .slice (some ⟨w_114.heap.size, 0, none⟩) 1 1]) rfl rfl rfl (by kernel_rfl) hx133 ?_
                  refine y_k (.slice t63_118.a t63_118.n t63_118.c : Value) w_119 rfl rfl rfl (by kernel_rfl) ?_
                  refine y_nil ?_
                  exact y_then (hjK129 _ t63_118 w_119 rfl rfl rfl rfl rfl rfl h)
                · replace h := h.2 (hb135)
                  refine y_skip ?_
                  exact y_then (hjK129 _ out11_12 w_114 rfl rfl rfl rfl rfl rfl h)
              · replace h := h.2 (of_decide_eq_false hb170)
                refine y_seq fun K136 hK136 => ?_
                refine q_region (by kernel_rfl) (by kernel_rfl) fun Qq137 hQq137 => ?_
                refine q_k (.slice a0_10.a a0_10.n a0_10.c : Value) rfl rfl rfl (fun _ => by kernel_rfl) ?_
                refine q_k (.int .i64 ((a0_10.n : Int)) : Value) rfl rfl rfl (fun _ => by kernel_rfl) ?_
                refine q_k (.bool (((((a0_10.n : Int))) == 0)) : Value) rfl rfl rfl (fun _ => by kernel_rfl) ?_
                refine q_k (.bool (((((a0_10.n : Int))) == 0)) : Value) rfl rfl rfl (fun _ => by kernel_rfl) ?_
                refine q_fork (((((a0_10.n : Int))) == 0)) (fun hb138 => ?_) (fun hb138 => ?_)
                · replace h := h.1 (eq_of_beq hb138)
                  refine q_frame (upd_id (i := 70) (v := .bool true) rfl (congrArg Value.bool hb138)) ?_
                  refine q_gno rfl rfl rfl rfl ?_
                  refine q_gno rfl rfl rfl rfl ?_
                  refine q_gno rfl rfl rfl rfl ?_
                  refine q_gno rfl rfl rfl rfl ?_
                  refine q_gno rfl rfl rfl rfl ?_
                  refine q_gno rfl rfl rfl rfl ?_
                  refine q_gno rfl rfl rfl rfl ?_
                  refine q_k (.bool true : Value) rfl rfl rfl (fun _ => by kernel_rfl) ?_
                  refine q_k (.bool true : Value) rfl rfl rfl (fun _ => by kernel_rfl) ?_
                  refine q_nil (hQq137 _ fun m146 => ?_)
                  replace h := h _ ⟨m146, rfl⟩
                  generalize w_114.drewN m146 = w_123 at h ⊢
                  refine y_then (hK136 _ _ ?_)
                  refine y_cond_t rfl rfl ?_
                  refine y_seq fun K139 hK139 => ?_
                  have hjK139 : ∀ (f : Fr) (out11_129 : Sl) (w_130 : World), f 0 = (.slice a0_10.a a0_10.n a0_10.c : Value) → f 1 = (.slice b1_11.a b1_11.n b1_11.c : Value) → f 2 = (.bool one2_3 : Value) → f 3 = (.bool both3_4 : Value) → f 4 = (.bool two4_5 : Value) → f 11 = (.slice out11_129.a out11_129.n out11_129.c : Value) → F62_j12 a0_10 b1_11 next10 out11_129 w_130 → WK K139 89 f w_130 := by
                    intro f out11_129 w_130 e0 e1 e2 e3 e4 e11 h
                    refine y_atf (upd_id (upd_id (upd_id (upd_id (upd_id (upd_id rfl e0) e1) e2) e3) e4) e11) ?_
                    clear e0 e1 e2 e3 e4 e11
                    unfold F62_j12 at h
                    refine hK139 _ _ ?_
                    refine y_region ?_
                    refine y_k (.slice b1_11.a b1_11.n b1_11.c : Value) w_130 rfl rfl rfl (by kernel_rfl) ?_
                    obtain ⟨t87_131, hx144, h⟩ := h
                    refine y_v (s := Instr.sliceAt 22 (.slice b1_11.a b1_11.n b1_11.c : Value) (some (.int .i64 1 : Value)) none none) rfl rfl rfl (by kernel_rfl) (hx144) ?_
                    refine y_k (.slice t87_131.a t87_131.n t87_131.c : Value) w_130 rfl rfl rfl (by kernel_rfl) ?_
                    refine y_nil ?_
                    refine e_block_n ?_
                    refine e_block_n ?_
                    refine y_then (hN11 (a0_10, t87_131, out11_129) _ _ h ?_)
                    dsimp only
                    refine upd_id ?_ rfl
                    refine upd_id ?_ rfl
                    refine upd_id ?_ rfl
                    refine upd_id ?_ rfl
                    refine upd_id ?_ rfl
                    refine upd_id ?_ rfl
                    rfl
                  refine y_seq fun K140 hK140 => ?_
                  refine y_region ?_
                  refine y_k (.bool two4_5 : Value) w_123 rfl rfl rfl (by kernel_rfl) ?_
                  refine y_nil ?_
                  refine y_then (hK140 _ _ ?_)
                  refine y_cond (two4_5) rfl rfl (fun hb145 => ?_) (fun hb145 => ?_)
                  · replace h := h.1 (hb145)
                    refine y_region ?_
                    refine y_k (.slice out11_12.a out11_12.n out11_12.c : Value) w_123 rfl rfl rfl (by kernel_rfl) ?_
                    refine y_k (.slice b1_11.a b1_11.n b1_11.c : Value) w_123 rfl rfl rfl (by kernel_rfl) ?_
                    obtain ⟨hx141a, hx141b, a_124, hx141, h⟩ := h
                    refine y_v (v := (.pointer (some (a_124.add (Int.toNat 0))) : Value)) (s := Instr.indexAt 22 (.slice b1_11.a b1_11.n b1_11.c : Value) (.int .i64 0 : Value)) rfl rfl rfl (by kernel_rfl) (run_ixs1 (el := 23) (by kernel_rfl) (by kernel_rfl) hx141 hx141a hx141b) ?_
                    obtain ⟨t83_125, hx142, h⟩ := h
                    refine y_v (s := Instr.loadAt 23 (.pointer (some (a_124.add (Int.toNat 0))))) rfl rfl rfl (by kernel_rfl) (rn_load (by kernel_rfl) hx142) ?_
                    refine y_k (.slice (some ⟨w_123.heap.size, 0, none⟩) 1 1 : Value) (w_123.alloc (.cells #[.int .u32 t83_125] 23)) rfl rfl rfl (by kernel_rfl) ?_
                    replace h := h _ rfl
                    generalize w_123.alloc (.cells #[.int .u32 t83_125] 23) = w_126 at h ⊢
                    obtain ⟨t85_127, w_128, hx143, h⟩ := h
                    refine y_v (s := Builtin.append_ #[22, 22] 22 #[.slice out11_12.a out11_12.n out11_12.c, .slice (some ⟨w_123.heap.size, 0, none⟩) 1 1]) rfl rfl rfl (by kernel_rfl) hx143 ?_
                    refine y_k (.slice t85_127.a t85_127.n t85_127.c : Value) w_128 rfl rfl rfl (by kernel_rfl) ?_
                    refine y_nil ?_
                    exact y_then (hjK139 _ t85_127 w_128 rfl rfl rfl rfl rfl rfl h)
                  · replace h := h.2 (hb145)
                    refine y_skip ?_
                    exact y_then (hjK139 _ out11_12 w_123 rfl rfl rfl rfl rfl rfl h)
                · replace h := h.2 (beq_eq_false_iff_ne.mp hb138)
                  refine q_frame (upd_id (i := 70) (v := .bool false) rfl (congrArg Value.bool hb138)) ?_
                  refine q_gyes rfl rfl rfl ?_
                  refine q_k (.slice b1_11.a b1_11.n b1_11.c : Value) rfl rfl rfl (fun _ => by kernel_rfl) ?_
                  refine q_gyes rfl rfl rfl ?_
                  obtain ⟨hx147a, hx147b, a_132, hx147, h⟩ := h
                  refine q_v (v := (.pointer (some (a_132.add (Int.toNat 0))) : Value)) (s := Instr.indexAt 22 (.slice b1_11.a b1_11.n b1_11.c : Value) (.int .i64 0 : Value)) rfl rfl rfl (by kernel_rfl) (fun _ => run_ixs1 (el := 23) (by kernel_rfl) (by kernel_rfl) hx147 hx147a hx147b) ?_
                  refine q_gyes rfl rfl rfl ?_
                  obtain ⟨t73_133, hx148, h⟩ := h
                  refine q_v (v := (.int .u32 t73_133 : Value)) (s := Instr.loadAt 23 (.pointer (some (a_132.add (Int.toNat 0))))) rfl rfl rfl (by kernel_rfl) (fun _ => rn_load (by kernel_rfl) hx148) ?_
                  refine q_gyes rfl rfl rfl ?_
                  refine q_k (.slice a0_10.a a0_10.n a0_10.c : Value) rfl rfl rfl (fun _ => by kernel_rfl) ?_
                  refine q_gyes rfl rfl rfl ?_
                  obtain ⟨hx149a, hx149b, a_134, hx149, h⟩ := h
                  refine q_v (v := (.pointer (some (a_134.add (Int.toNat 0))) : Value)) (s := Instr.indexAt 22 (.slice a0_10.a a0_10.n a0_10.c : Value) (.int .i64 0 : Value)) rfl rfl rfl (by kernel_rfl) (fun _ => run_ixs1 (el := 23) (by kernel_rfl) (by kernel_rfl) hx149 hx149a hx149b) ?_
                  refine q_gyes rfl rfl rfl ?_
                  obtain ⟨t76_135, hx150, h⟩ := h
                  refine q_v (v := (.int .u32 t76_135 : Value)) (s := Instr.loadAt 23 (.pointer (some (a_134.add (Int.toNat 0))))) rfl rfl rfl (by kernel_rfl) (fun _ => rn_load (by kernel_rfl) hx150) ?_
                  refine q_gyes rfl rfl rfl ?_
                  refine q_k (.bool (decide (t73_133 < t76_135)) : Value) rfl rfl rfl (fun _ => by kernel_rfl) ?_
                  refine q_k (.bool (decide (t73_133 < t76_135)) : Value) rfl rfl rfl (fun _ => by kernel_rfl) ?_
                  refine q_k (.bool (decide (t73_133 < t76_135)) : Value) rfl rfl rfl (fun _ => by kernel_rfl) ?_
                  refine q_nil (hQq137 _ fun m169 => ?_)
                  replace h := h _ ⟨m169, rfl⟩
                  generalize w_114.drewN m169 = w_136 at h ⊢
                  refine y_then (hK136 _ _ ?_)
                  refine y_cond (decide (t73_133 < t76_135)) rfl rfl (fun hb168 => ?_) (fun hb168 => ?_)
                  · replace h := h.1 (of_decide_eq_true hb168)
                    refine y_seq fun K151 hK151 => ?_
                    have hjK151 : ∀ (f : Fr) (out11_142 : Sl) (w_143 : World), f 0 = (.slice a0_10.a a0_10.n a0_10.c : Value) → f 1 = (.slice b1_11.a b1_11.n b1_11.c : Value) → f 2 = (.bool one2_3 : Value) → f 3 = (.bool both3_4 : Value) → f 4 = (.bool two4_5 : Value) → f 11 = (.slice out11_142.a out11_142.n out11_142.c : Value) → F62_j13 a0_10 b1_11 next10 out11_142 w_143 → WK K151 89 f w_143 := by
                      intro f out11_142 w_143 e0 e1 e2 e3 e4 e11 h
                      refine y_atf (upd_id (upd_id (upd_id (upd_id (upd_id (upd_id rfl e0) e1) e2) e3) e4) e11) ?_
                      clear e0 e1 e2 e3 e4 e11
                      unfold F62_j13 at h
                      refine hK151 _ _ ?_
                      refine y_region ?_
                      refine y_k (.slice b1_11.a b1_11.n b1_11.c : Value) w_143 rfl rfl rfl (by kernel_rfl) ?_
                      obtain ⟨t87_144, hx156, h⟩ := h
                      refine y_v (s := Instr.sliceAt 22 (.slice b1_11.a b1_11.n b1_11.c : Value) (some (.int .i64 1 : Value)) none none) rfl rfl rfl (by kernel_rfl) (hx156) ?_
                      refine y_k (.slice t87_144.a t87_144.n t87_144.c : Value) w_143 rfl rfl rfl (by kernel_rfl) ?_
                      refine y_nil ?_
                      refine e_block_n ?_
                      refine e_block_n ?_
                      refine y_then (hN11 (a0_10, t87_144, out11_142) _ _ h ?_)
                      dsimp only
                      refine upd_id ?_ rfl
                      refine upd_id ?_ rfl
                      refine upd_id ?_ rfl
                      refine upd_id ?_ rfl
                      refine upd_id ?_ rfl
                      refine upd_id ?_ rfl
                      rfl
                    refine y_seq fun K152 hK152 => ?_
                    refine y_region ?_
                    refine y_k (.bool two4_5 : Value) w_136 rfl rfl rfl (by kernel_rfl) ?_
                    refine y_nil ?_
                    refine y_then (hK152 _ _ ?_)
                    refine y_cond (two4_5) rfl rfl (fun hb157 => ?_) (fun hb157 => ?_)
                    · replace h := h.1 (hb157)
                      refine y_region ?_
                      refine y_k (.slice out11_12.a out11_12.n out11_12.c : Value) w_136 rfl rfl rfl (by kernel_rfl) ?_
                      refine y_k (.slice b1_11.a b1_11.n b1_11.c : Value) w_136 rfl rfl rfl (by kernel_rfl) ?_
                      obtain ⟨hx153a, hx153b, a_137, hx153, h⟩ := h
                      refine y_v (v := (.pointer (some (a_137.add (Int.toNat 0))) : Value)) (s := Instr.indexAt 22 (.slice b1_11.a b1_11.n b1_11.c : Value) (.int .i64 0 : Value)) rfl rfl rfl (by kernel_rfl) (run_ixs1 (el := 23) (by kernel_rfl) (by kernel_rfl) hx153 hx153a hx153b) ?_
                      obtain ⟨t83_138, hx154, h⟩ := h
                      refine y_v (s := Instr.loadAt 23 (.pointer (some (a_137.add (Int.toNat 0))))) rfl rfl rfl (by kernel_rfl) (rn_load (by kernel_rfl) hx154) ?_
                      refine y_k (.slice (some ⟨w_136.heap.size, 0, none⟩) 1 1 : Value) (w_136.alloc (.cells #[.int .u32 t83_138] 23)) rfl rfl rfl (by kernel_rfl) ?_
                      replace h := h _ rfl
                      generalize w_136.alloc (.cells #[.int .u32 t83_138] 23) = w_139 at h ⊢
                      obtain ⟨t85_140, w_141, hx155, h⟩ := h
                      refine y_v (s := Builtin.append_ #[22, 22] 22 #[.slice out11_12.a out11_12.n out11_12.c, .slice (some ⟨w_136.heap.size, 0, none⟩) 1 1]) rfl rfl rfl (by kernel_rfl) hx155 ?_
                      refine y_k (.slice t85_140.a t85_140.n t85_140.c : Value) w_141 rfl rfl rfl (by kernel_rfl) ?_
                      refine y_nil ?_
                      exact y_then (hjK151 _ t85_140 w_141 rfl rfl rfl rfl rfl rfl h)
                    · replace h := h.2 (hb157)
                      refine y_skip ?_
                      exact y_then (hjK151 _ out11_12 w_136 rfl rfl rfl rfl rfl rfl h)
                  · replace h := h.2 (of_decide_eq_false hb168)
                    refine y_seq fun K158 hK158 => ?_
                    have hjK158 : ∀ (f : Fr) (out11_150 : Sl) (w_151 : World), f 0 = (.slice a0_10.a a0_10.n a0_10.c : Value) → f 1 = (.slice b1_11.a b1_11.n b1_11.c : Value) → f 2 = (.bool one2_3 : Value) → f 3 = (.bool both3_4 : Value) → f 4 = (.bool two4_5 : Value) → f 11 = (.slice out11_150.a out11_150.n out11_150.c : Value) → F62_j14 a0_10 b1_11 next10 out11_150 w_151 → WK K158 89 f w_151 := by
                      intro f out11_150 w_151 e0 e1 e2 e3 e4 e11 h
                      refine y_atf (upd_id (upd_id (upd_id (upd_id (upd_id (upd_id rfl e0) e1) e2) e3) e4) e11) ?_
                      clear e0 e1 e2 e3 e4 e11
                      unfold F62_j14 at h
                      refine hK158 _ _ ?_
                      refine q_region (by kernel_rfl) (by kernel_rfl) fun Qq163 hQq163 => ?_
                      refine q_k (.slice a0_10.a a0_10.n a0_10.c : Value) rfl rfl rfl (fun _ => by kernel_rfl) ?_
                      obtain ⟨t36_152, hx164, h⟩ := h
                      refine q_v (v := (.slice t36_152.a t36_152.n t36_152.c : Value)) (s := Instr.sliceAt 22 (.slice a0_10.a a0_10.n a0_10.c : Value) (some (.int .i64 1 : Value)) none none) rfl rfl rfl (by kernel_rfl) (fun _ => (hx164 _)) ?_
                      refine q_k (.slice b1_11.a b1_11.n b1_11.c : Value) rfl rfl rfl (fun _ => by kernel_rfl) ?_
                      obtain ⟨t38_153, hx165, h⟩ := h
                      refine q_v (v := (.slice t38_153.a t38_153.n t38_153.c : Value)) (s := Instr.sliceAt 22 (.slice b1_11.a b1_11.n b1_11.c : Value) (some (.int .i64 1 : Value)) none none) rfl rfl rfl (by kernel_rfl) (fun _ => (hx165 _)) ?_
                      refine q_k (.slice t36_152.a t36_152.n t36_152.c : Value) rfl rfl rfl (fun _ => by kernel_rfl) ?_
                      refine q_k (.slice t38_153.a t38_153.n t38_153.c : Value) rfl rfl rfl (fun _ => by kernel_rfl) ?_
                      refine q_nil (hQq163 _ fun m166 => ?_)
                      replace h := h _ ⟨m166, rfl⟩
                      generalize w_151.drewN m166 = w_154 at h ⊢
                      refine e_block_n ?_
                      refine e_block_n ?_
                      refine y_then (hN11 (t36_152, t38_153, out11_150) _ _ h ?_)
                      dsimp only
                      refine upd_id ?_ rfl
                      refine upd_id ?_ rfl
                      refine upd_id ?_ rfl
                      refine upd_id ?_ rfl
                      refine upd_id ?_ rfl
                      refine upd_id ?_ rfl
                      rfl
                    refine y_seq fun K159 hK159 => ?_
                    refine y_region ?_
                    refine y_k (.bool both3_4 : Value) w_136 rfl rfl rfl (by kernel_rfl) ?_
                    refine y_nil ?_
                    refine y_then (hK159 _ _ ?_)
                    refine y_cond (both3_4) rfl rfl (fun hb167 => ?_) (fun hb167 => ?_)
                    · replace h := h.1 (hb167)
                      refine y_region ?_
                      refine y_k (.slice out11_12.a out11_12.n out11_12.c : Value) w_136 rfl rfl rfl (by kernel_rfl) ?_
                      refine y_k (.slice a0_10.a a0_10.n a0_10.c : Value) w_136 rfl rfl rfl (by kernel_rfl) ?_
                      obtain ⟨hx160a, hx160b, a_145, hx160, h⟩ := h
                      refine y_v (v := (.pointer (some (a_145.add (Int.toNat 0))) : Value)) (s := Instr.indexAt 22 (.slice a0_10.a a0_10.n a0_10.c : Value) (.int .i64 0 : Value)) rfl rfl rfl (by kernel_rfl) (run_ixs1 (el := 23) (by kernel_rfl) (by kernel_rfl) hx160 hx160a hx160b) ?_
                      obtain ⟨t32_146, hx161, h⟩ := h
                      refine y_v (s := Instr.loadAt 23 (.pointer (some (a_145.add (Int.toNat 0))))) rfl rfl rfl (by kernel_rfl) (rn_load (by kernel_rfl) hx161) ?_
                      refine y_k (.slice (some ⟨w_136.heap.size, 0, none⟩) 1 1 : Value) (w_136.alloc (.cells #[.int .u32 t32_146] 23)) rfl rfl rfl (by kernel_rfl) ?_
                      replace h := h _ rfl
                      generalize w_136.alloc (.cells #[.int .u32 t32_146] 23) = w_147 at h ⊢
                      obtain ⟨t34_148, w_149, hx162, h⟩ := h
                      refine y_v (s := Builtin.append_ #[22, 22] 22 #[.slice out11_12.a out11_12.n out11_12.c, .slice (some ⟨w_136.heap.size, 0, none⟩) 1 1]) rfl rfl rfl (by kernel_rfl) hx162 ?_
                      refine y_k (.slice t34_148.a t34_148.n t34_148.c : Value) w_149 rfl rfl rfl (by kernel_rfl) ?_
                      refine y_nil ?_
                      exact y_then (hjK158 _ t34_148 w_149 rfl rfl rfl rfl rfl rfl h)
                    · replace h := h.2 (hb167)
                      refine y_skip ?_
                      exact y_then (hjK158 _ out11_12 w_136 rfl rfl rfl rfl rfl rfl h)
            · replace h := h.2 (of_decide_eq_false hb124)
              refine q_frame (upd_id (i := 47) (v := .bool false) rfl (congrArg Value.bool hb124)) ?_
              refine q_gno rfl rfl rfl rfl ?_
              refine q_gno rfl rfl rfl rfl ?_
              refine q_gno rfl rfl rfl rfl ?_
              refine q_gno rfl rfl rfl rfl ?_
              refine q_gno rfl rfl rfl rfl ?_
              refine q_gno rfl rfl rfl rfl ?_
              refine q_gno rfl rfl rfl rfl ?_
              refine q_gyes rfl rfl rfl ?_
              refine q_k (.bool false : Value) rfl rfl rfl (fun _ => by kernel_rfl) ?_
              refine q_k (.bool false : Value) rfl rfl rfl (fun _ => by kernel_rfl) ?_
              refine q_k (.bool false : Value) rfl rfl rfl (fun _ => by kernel_rfl) ?_
              refine q_nil (hQq114 _ fun m206 => ?_)
              replace h := h _ ⟨m206, rfl⟩
              generalize w_13.drewN m206 = w_155 at h ⊢
              refine y_then (hK113 _ _ ?_)
              refine y_cond_f rfl rfl ?_
              refine y_seq fun K172 hK172 => ?_
              refine q_region (by kernel_rfl) (by kernel_rfl) fun Qq173 hQq173 => ?_
              refine q_k (.slice a0_10.a a0_10.n a0_10.c : Value) rfl rfl rfl (fun _ => by kernel_rfl) ?_
              refine q_k (.int .i64 ((a0_10.n : Int)) : Value) rfl rfl rfl (fun _ => by kernel_rfl) ?_
              refine q_k (.bool (((((a0_10.n : Int))) == 0)) : Value) rfl rfl rfl (fun _ => by kernel_rfl) ?_
              refine q_k (.bool (((((a0_10.n : Int))) == 0)) : Value) rfl rfl rfl (fun _ => by kernel_rfl) ?_
              refine q_fork (((((a0_10.n : Int))) == 0)) (fun hb174 => ?_) (fun hb174 => ?_)
              · replace h := h.1 (eq_of_beq hb174)
                refine q_frame (upd_id (i := 70) (v := .bool true) rfl (congrArg Value.bool hb174)) ?_
                refine q_gno rfl rfl rfl rfl ?_
                refine q_gno rfl rfl rfl rfl ?_
                refine q_gno rfl rfl rfl rfl ?_
                refine q_gno rfl rfl rfl rfl ?_
                refine q_gno rfl rfl rfl rfl ?_
                refine q_gno rfl rfl rfl rfl ?_
                refine q_gno rfl rfl rfl rfl ?_
                refine q_k (.bool true : Value) rfl rfl rfl (fun _ => by kernel_rfl) ?_
                refine q_k (.bool true : Value) rfl rfl rfl (fun _ => by kernel_rfl) ?_
                refine q_nil (hQq173 _ fun m182 => ?_)
                replace h := h _ ⟨m182, rfl⟩
                generalize w_155.drewN m182 = w_156 at h ⊢
                refine y_then (hK172 _ _ ?_)
                refine y_cond_t rfl rfl ?_
                refine y_seq fun K175 hK175 => ?_
                have hjK175 : ∀ (f : Fr) (out11_162 : Sl) (w_163 : World), f 0 = (.slice a0_10.a a0_10.n a0_10.c : Value) → f 1 = (.slice b1_11.a b1_11.n b1_11.c : Value) → f 2 = (.bool one2_3 : Value) → f 3 = (.bool both3_4 : Value) → f 4 = (.bool two4_5 : Value) → f 11 = (.slice out11_162.a out11_162.n out11_162.c : Value) → F62_j15 a0_10 b1_11 next10 out11_162 w_163 → WK K175 89 f w_163 := by
                  intro f out11_162 w_163 e0 e1 e2 e3 e4 e11 h
                  refine y_atf (upd_id (upd_id (upd_id (upd_id (upd_id (upd_id rfl e0) e1) e2) e3) e4) e11) ?_
                  clear e0 e1 e2 e3 e4 e11
                  unfold F62_j15 at h
                  refine hK175 _ _ ?_
                  refine y_region ?_
                  refine y_k (.slice b1_11.a b1_11.n b1_11.c : Value) w_163 rfl rfl rfl (by kernel_rfl) ?_
                  obtain ⟨t87_164, hx180, h⟩ := h
                  refine y_v (s := Instr.sliceAt 22 (.slice b1_11.a b1_11.n b1_11.c : Value) (some (.int .i64 1 : Value)) none none) rfl rfl rfl (by kernel_rfl) (hx180) ?_
                  refine y_k (.slice t87_164.a t87_164.n t87_164.c : Value) w_163 rfl rfl rfl (by kernel_rfl) ?_
                  refine y_nil ?_
                  refine e_block_n ?_
                  refine e_block_n ?_
                  refine y_then (hN11 (a0_10, t87_164, out11_162) _ _ h ?_)
                  dsimp only
                  refine upd_id ?_ rfl
                  refine upd_id ?_ rfl
                  refine upd_id ?_ rfl
                  refine upd_id ?_ rfl
                  refine upd_id ?_ rfl
                  refine upd_id ?_ rfl
                  rfl
                refine y_seq fun K176 hK176 => ?_
                refine y_region ?_
                refine y_k (.bool two4_5 : Value) w_156 rfl rfl rfl (by kernel_rfl) ?_
                refine y_nil ?_
                refine y_then (hK176 _ _ ?_)
                refine y_cond (two4_5) rfl rfl (fun hb181 => ?_) (fun hb181 => ?_)
                · replace h := h.1 (hb181)
                  refine y_region ?_
                  refine y_k (.slice out11_12.a out11_12.n out11_12.c : Value) w_156 rfl rfl rfl (by kernel_rfl) ?_
                  refine y_k (.slice b1_11.a b1_11.n b1_11.c : Value) w_156 rfl rfl rfl (by kernel_rfl) ?_
                  obtain ⟨hx177a, hx177b, a_157, hx177, h⟩ := h
                  refine y_v (v := (.pointer (some (a_157.add (Int.toNat 0))) : Value)) (s := Instr.indexAt 22 (.slice b1_11.a b1_11.n b1_11.c : Value) (.int .i64 0 : Value)) rfl rfl rfl (by kernel_rfl) (run_ixs1 (el := 23) (by kernel_rfl) (by kernel_rfl) hx177 hx177a hx177b) ?_
                  obtain ⟨t83_158, hx178, h⟩ := h
                  refine y_v (s := Instr.loadAt 23 (.pointer (some (a_157.add (Int.toNat 0))))) rfl rfl rfl (by kernel_rfl) (rn_load (by kernel_rfl) hx178) ?_
                  refine y_k (.slice (some ⟨w_156.heap.size, 0, none⟩) 1 1 : Value) (w_156.alloc (.cells #[.int .u32 t83_158] 23)) rfl rfl rfl (by kernel_rfl) ?_
                  replace h := h _ rfl
                  generalize w_156.alloc (.cells #[.int .u32 t83_158] 23) = w_159 at h ⊢
                  obtain ⟨t85_160, w_161, hx179, h⟩ := h
                  refine y_v (s := Builtin.append_ #[22, 22] 22 #[.slice out11_12.a out11_12.n out11_12.c, .slice (some ⟨w_156.heap.size, 0, none⟩) 1 1]) rfl rfl rfl (by kernel_rfl) hx179 ?_
                  refine y_k (.slice t85_160.a t85_160.n t85_160.c : Value) w_161 rfl rfl rfl (by kernel_rfl) ?_
                  refine y_nil ?_
                  exact y_then (hjK175 _ t85_160 w_161 rfl rfl rfl rfl rfl rfl h)
                · replace h := h.2 (hb181)
                  refine y_skip ?_
                  exact y_then (hjK175 _ out11_12 w_156 rfl rfl rfl rfl rfl rfl h)
              · replace h := h.2 (beq_eq_false_iff_ne.mp hb174)
                refine q_frame (upd_id (i := 70) (v := .bool false) rfl (congrArg Value.bool hb174)) ?_
                refine q_gyes rfl rfl rfl ?_
                refine q_k (.slice b1_11.a b1_11.n b1_11.c : Value) rfl rfl rfl (fun _ => by kernel_rfl) ?_
                refine q_gyes rfl rfl rfl ?_
                obtain ⟨hx183a, hx183b, a_165, hx183, h⟩ := h
                refine q_v (v := (.pointer (some (a_165.add (Int.toNat 0))) : Value)) (s := Instr.indexAt 22 (.slice b1_11.a b1_11.n b1_11.c : Value) (.int .i64 0 : Value)) rfl rfl rfl (by kernel_rfl) (fun _ => run_ixs1 (el := 23) (by kernel_rfl) (by kernel_rfl) hx183 hx183a hx183b) ?_
                refine q_gyes rfl rfl rfl ?_
                obtain ⟨t73_166, hx184, h⟩ := h
                refine q_v (v := (.int .u32 t73_166 : Value)) (s := Instr.loadAt 23 (.pointer (some (a_165.add (Int.toNat 0))))) rfl rfl rfl (by kernel_rfl) (fun _ => rn_load (by kernel_rfl) hx184) ?_
                refine q_gyes rfl rfl rfl ?_
                refine q_k (.slice a0_10.a a0_10.n a0_10.c : Value) rfl rfl rfl (fun _ => by kernel_rfl) ?_
                refine q_gyes rfl rfl rfl ?_
                obtain ⟨hx185a, hx185b, a_167, hx185, h⟩ := h
                refine q_v (v := (.pointer (some (a_167.add (Int.toNat 0))) : Value)) (s := Instr.indexAt 22 (.slice a0_10.a a0_10.n a0_10.c : Value) (.int .i64 0 : Value)) rfl rfl rfl (by kernel_rfl) (fun _ => run_ixs1 (el := 23) (by kernel_rfl) (by kernel_rfl) hx185 hx185a hx185b) ?_
                refine q_gyes rfl rfl rfl ?_
                obtain ⟨t76_168, hx186, h⟩ := h
                refine q_v (v := (.int .u32 t76_168 : Value)) (s := Instr.loadAt 23 (.pointer (some (a_167.add (Int.toNat 0))))) rfl rfl rfl (by kernel_rfl) (fun _ => rn_load (by kernel_rfl) hx186) ?_
                refine q_gyes rfl rfl rfl ?_
                refine q_k (.bool (decide (t73_166 < t76_168)) : Value) rfl rfl rfl (fun _ => by kernel_rfl) ?_
                refine q_k (.bool (decide (t73_166 < t76_168)) : Value) rfl rfl rfl (fun _ => by kernel_rfl) ?_
                refine q_k (.bool (decide (t73_166 < t76_168)) : Value) rfl rfl rfl (fun _ => by kernel_rfl) ?_
                refine q_nil (hQq173 _ fun m205 => ?_)
                replace h := h _ ⟨m205, rfl⟩
                generalize w_155.drewN m205 = w_169 at h ⊢
                refine y_then (hK172 _ _ ?_)
                refine y_cond (decide (t73_166 < t76_168)) rfl rfl (fun hb204 => ?_) (fun hb204 => ?_)
                · replace h := h.1 (of_decide_eq_true hb204)
                  refine y_seq fun K187 hK187 => ?_
                  have hjK187 : ∀ (f : Fr) (out11_175 : Sl) (w_176 : World), f 0 = (.slice a0_10.a a0_10.n a0_10.c : Value) → f 1 = (.slice b1_11.a b1_11.n b1_11.c : Value) → f 2 = (.bool one2_3 : Value) → f 3 = (.bool both3_4 : Value) → f 4 = (.bool two4_5 : Value) → f 11 = (.slice out11_175.a out11_175.n out11_175.c : Value) → F62_j16 a0_10 b1_11 next10 out11_175 w_176 → WK K187 89 f w_176 := by
                    intro f out11_175 w_176 e0 e1 e2 e3 e4 e11 h
                    refine y_atf (upd_id (upd_id (upd_id (upd_id (upd_id (upd_id rfl e0) e1) e2) e3) e4) e11) ?_
                    clear e0 e1 e2 e3 e4 e11
                    unfold F62_j16 at h
                    refine hK187 _ _ ?_
                    refine y_region ?_
                    refine y_k (.slice b1_11.a b1_11.n b1_11.c : Value) w_176 rfl rfl rfl (by kernel_rfl) ?_
                    obtain ⟨t87_177, hx192, h⟩ := h
                    refine y_v (s := Instr.sliceAt 22 (.slice b1_11.a b1_11.n b1_11.c : Value) (some (.int .i64 1 : Value)) none none) rfl rfl rfl (by kernel_rfl) (hx192) ?_
                    refine y_k (.slice t87_177.a t87_177.n t87_177.c : Value) w_176 rfl rfl rfl (by kernel_rfl) ?_
                    refine y_nil ?_
                    refine e_block_n ?_
                    refine e_block_n ?_
                    refine y_then (hN11 (a0_10, t87_177, out11_175) _ _ h ?_)
                    dsimp only
                    refine upd_id ?_ rfl
                    refine upd_id ?_ rfl
                    refine upd_id ?_ rfl
                    refine upd_id ?_ rfl
                    refine upd_id ?_ rfl
                    refine upd_id ?_ rfl
                    rfl
                  refine y_seq fun K188 hK188 => ?_
                  refine y_region ?_
                  refine y_k (.bool two4_5 : Value) w_169 rfl rfl rfl (by kernel_rfl) ?_
                  refine y_nil ?_
                  refine y_then (hK188 _ _ ?_)
                  refine y_cond (two4_5) rfl rfl (fun hb193 => ?_) (fun hb193 => ?_)
                  · replace h := h.1 (hb193)
                    refine y_region ?_
                    refine y_k (.slice out11_12.a out11_12.n out11_12.c : Value) w_169 rfl rfl rfl (by kernel_rfl) ?_
                    refine y_k (.slice b1_11.a b1_11.n b1_11.c : Value) w_169 rfl rfl rfl (by kernel_rfl) ?_
                    obtain ⟨hx189a, hx189b, a_170, hx189, h⟩ := h
                    refine y_v (v := (.pointer (some (a_170.add (Int.toNat 0))) : Value)) (s := Instr.indexAt 22 (.slice b1_11.a b1_11.n b1_11.c : Value) (.int .i64 0 : Value)) rfl rfl rfl (by kernel_rfl) (run_ixs1 (el := 23) (by kernel_rfl) (by kernel_rfl) hx189 hx189a hx189b) ?_
                    obtain ⟨t83_171, hx190, h⟩ := h
                    refine y_v (s := Instr.loadAt 23 (.pointer (some (a_170.add (Int.toNat 0))))) rfl rfl rfl (by kernel_rfl) (rn_load (by kernel_rfl) hx190) ?_
                    refine y_k (.slice (some ⟨w_169.heap.size, 0, none⟩) 1 1 : Value) (w_169.alloc (.cells #[.int .u32 t83_171] 23)) rfl rfl rfl (by kernel_rfl) ?_
                    replace h := h _ rfl
                    generalize w_169.alloc (.cells #[.int .u32 t83_171] 23) = w_172 at h ⊢
                    obtain ⟨t85_173, w_174, hx191, h⟩ := h
                    refine y_v (s := Builtin.append_ #[22, 22] 22 #[.slice out11_12.a out11_12.n out11_12.c, .slice (some ⟨w_169.heap.size, 0, none⟩) 1 1]) rfl rfl rfl (by kernel_rfl) hx191 ?_
                    refine y_k (.slice t85_173.a t85_173.n t85_173.c : Value) w_174 rfl rfl rfl (by kernel_rfl) ?_
                    refine y_nil ?_
                    exact y_then (hjK187 _ t85_173 w_174 rfl rfl rfl rfl rfl rfl h)
                  · replace h := h.2 (hb193)
                    refine y_skip ?_
                    exact y_then (hjK187 _ out11_12 w_169 rfl rfl rfl rfl rfl rfl h)
                · replace h := h.2 (of_decide_eq_false hb204)
                  refine y_seq fun K194 hK194 => ?_
                  have hjK194 : ∀ (f : Fr) (out11_183 : Sl) (w_184 : World), f 0 = (.slice a0_10.a a0_10.n a0_10.c : Value) → f 1 = (.slice b1_11.a b1_11.n b1_11.c : Value) → f 2 = (.bool one2_3 : Value) → f 3 = (.bool both3_4 : Value) → f 4 = (.bool two4_5 : Value) → f 11 = (.slice out11_183.a out11_183.n out11_183.c : Value) → F62_j17 a0_10 b1_11 next10 out11_183 w_184 → WK K194 89 f w_184 := by
                    intro f out11_183 w_184 e0 e1 e2 e3 e4 e11 h
                    refine y_atf (upd_id (upd_id (upd_id (upd_id (upd_id (upd_id rfl e0) e1) e2) e3) e4) e11) ?_
                    clear e0 e1 e2 e3 e4 e11
                    unfold F62_j17 at h
                    refine hK194 _ _ ?_
                    refine q_region (by kernel_rfl) (by kernel_rfl) fun Qq199 hQq199 => ?_
                    refine q_k (.slice a0_10.a a0_10.n a0_10.c : Value) rfl rfl rfl (fun _ => by kernel_rfl) ?_
                    obtain ⟨t36_185, hx200, h⟩ := h
                    refine q_v (v := (.slice t36_185.a t36_185.n t36_185.c : Value)) (s := Instr.sliceAt 22 (.slice a0_10.a a0_10.n a0_10.c : Value) (some (.int .i64 1 : Value)) none none) rfl rfl rfl (by kernel_rfl) (fun _ => (hx200 _)) ?_
                    refine q_k (.slice b1_11.a b1_11.n b1_11.c : Value) rfl rfl rfl (fun _ => by kernel_rfl) ?_
                    obtain ⟨t38_186, hx201, h⟩ := h
                    refine q_v (v := (.slice t38_186.a t38_186.n t38_186.c : Value)) (s := Instr.sliceAt 22 (.slice b1_11.a b1_11.n b1_11.c : Value) (some (.int .i64 1 : Value)) none none) rfl rfl rfl (by kernel_rfl) (fun _ => (hx201 _)) ?_
                    refine q_k (.slice t36_185.a t36_185.n t36_185.c : Value) rfl rfl rfl (fun _ => by kernel_rfl) ?_
                    refine q_k (.slice t38_186.a t38_186.n t38_186.c : Value) rfl rfl rfl (fun _ => by kernel_rfl) ?_
                    refine q_nil (hQq199 _ fun m202 => ?_)
                    replace h := h _ ⟨m202, rfl⟩
                    generalize w_184.drewN m202 = w_187 at h ⊢
                    refine e_block_n ?_
                    refine e_block_n ?_
                    refine y_then (hN11 (t36_185, t38_186, out11_183) _ _ h ?_)
                    dsimp only
                    refine upd_id ?_ rfl
                    refine upd_id ?_ rfl
                    refine upd_id ?_ rfl
                    refine upd_id ?_ rfl
                    refine upd_id ?_ rfl
                    refine upd_id ?_ rfl
                    rfl
                  refine y_seq fun K195 hK195 => ?_
                  refine y_region ?_
                  refine y_k (.bool both3_4 : Value) w_169 rfl rfl rfl (by kernel_rfl) ?_
                  refine y_nil ?_
                  refine y_then (hK195 _ _ ?_)
                  refine y_cond (both3_4) rfl rfl (fun hb203 => ?_) (fun hb203 => ?_)
                  · replace h := h.1 (hb203)
                    refine y_region ?_
                    refine y_k (.slice out11_12.a out11_12.n out11_12.c : Value) w_169 rfl rfl rfl (by kernel_rfl) ?_
                    refine y_k (.slice a0_10.a a0_10.n a0_10.c : Value) w_169 rfl rfl rfl (by kernel_rfl) ?_
                    obtain ⟨hx196a, hx196b, a_178, hx196, h⟩ := h
                    refine y_v (v := (.pointer (some (a_178.add (Int.toNat 0))) : Value)) (s := Instr.indexAt 22 (.slice a0_10.a a0_10.n a0_10.c : Value) (.int .i64 0 : Value)) rfl rfl rfl (by kernel_rfl) (run_ixs1 (el := 23) (by kernel_rfl) (by kernel_rfl) hx196 hx196a hx196b) ?_
                    obtain ⟨t32_179, hx197, h⟩ := h
                    refine y_v (s := Instr.loadAt 23 (.pointer (some (a_178.add (Int.toNat 0))))) rfl rfl rfl (by kernel_rfl) (rn_load (by kernel_rfl) hx197) ?_
                    refine y_k (.slice (some ⟨w_169.heap.size, 0, none⟩) 1 1 : Value) (w_169.alloc (.cells #[.int .u32 t32_179] 23)) rfl rfl rfl (by kernel_rfl) ?_
                    replace h := h _ rfl
                    generalize w_169.alloc (.cells #[.int .u32 t32_179] 23) = w_180 at h ⊢
                    obtain ⟨t34_181, w_182, hx198, h⟩ := h
                    refine y_v (s := Builtin.append_ #[22, 22] 22 #[.slice out11_12.a out11_12.n out11_12.c, .slice (some ⟨w_169.heap.size, 0, none⟩) 1 1]) rfl rfl rfl (by kernel_rfl) hx198 ?_
                    refine y_k (.slice t34_181.a t34_181.n t34_181.c : Value) w_182 rfl rfl rfl (by kernel_rfl) ?_
                    refine y_nil ?_
                    exact y_then (hjK194 _ t34_181 w_182 rfl rfl rfl rfl rfl rfl h)
                  · replace h := h.2 (hb203)
                    refine y_skip ?_
                    exact y_then (hjK194 _ out11_12 w_169 rfl rfl rfl rfl rfl rfl h)
        · replace h := h.2 (of_decide_eq_false hb208)
          refine y_exit ?_
          repeat (first | refine e_then_x ?_ | refine e_block_y rfl ?_)
          refine e_block_x ?_
          refine y_then (hK8 _ _ ?_)
          refine y_seq fun K207 hK207 => ?_
          refine y_region ?_
          refine y_k (.slice out11_12.a out11_12.n out11_12.c : Value) w_13 rfl rfl rfl (by kernel_rfl) ?_
          refine y_k (.slice out11_12.a out11_12.n out11_12.c : Value) w_13 rfl rfl rfl (by kernel_rfl) ?_
          refine y_nil ?_
          refine y_then (hK207 _ _ ?_)
          refine y_ret ?_
          repeat (first | refine e_then_r ?_ | refine e_block_r ?_)
          exact (hQ0 _ _ _ (res1 (v := (.slice out11_12.a out11_12.n out11_12.c : Value)) rfl rfl rfl) ⟨_, rfl, h⟩).1

/-- turnkey/post.And -/
def F16 (a0_1 : Sl) (b1_2 : Sl) (K : Sl → World → Prop) (w : World) : Prop :=
  Calls Try.prog 62 #[.slice a0_1.a a0_1.n a0_1.c, .slice b1_2.a b1_2.n b1_2.c, .bool false, .bool true, .bool false] w fun e w_4 => ∃ (t7_3 : Sl), e = .returned (.slice t7_3.a t7_3.n t7_3.c : Value) ∧
  K t7_3 w_4
set_option maxHeartbeats 4000000 in
set_option maxRecDepth 20000 in
theorem F16_sound (a0_1 : Sl) (b1_2 : Sl) (K : Sl → World → Prop) (w : World) (h : F16 a0_1 b1_2 K w) :
    Calls Try.prog 16 #[.slice a0_1.a a0_1.n a0_1.c, .slice b1_2.a b1_2.n b1_2.c] w (fun e w1 => ∃ (r0 : Sl), e = .returned (.slice r0.a r0.n r0.c : Value) ∧ K r0 w1) := by
  unfold F16 at h
  refine y_enter (n := 8) (args := [.slice a0_1.a a0_1.n a0_1.c, .slice b1_2.a b1_2.n b1_2.c]) Try.func16 rfl rfl rfl fun Q0 hQ0 => ?_
  refine y_seq fun K1 hK1 => ?_
  refine y_region ?_
  refine y_k (.slice none 0 0 : Value) w rfl rfl rfl (by kernel_rfl) ?_
  refine y_nil ?_
  refine y_then (hK1 _ _ ?_)
  refine y_seq fun K2 hK2 => ?_
  refine y_region ?_
  refine y_k (.slice a0_1.a a0_1.n a0_1.c : Value) w rfl rfl rfl (by kernel_rfl) ?_
  refine y_k (.slice b1_2.a b1_2.n b1_2.c : Value) w rfl rfl rfl (by kernel_rfl) ?_
  refine y_call rfl rfl rfl (by kernel_rfl) (h.mono ?_)
  rintro _ w_4 ⟨t7_3, rfl, h⟩
  refine ⟨_, rfl, ?_⟩
  refine y_k (.slice t7_3.a t7_3.n t7_3.c : Value) w_4 rfl rfl rfl (by kernel_rfl) ?_
  refine y_nil ?_
  refine y_then (hK2 _ _ ?_)
  refine y_ret ?_
  repeat (first | refine e_then_r ?_ | refine e_block_r ?_)
  exact (hQ0 _ _ _ (res1 (v := (.slice t7_3.a t7_3.n t7_3.c : Value)) rfl rfl rfl) ⟨_, rfl, h⟩).1

/-- turnkey/post.Or -/
def F17 (a0_1 : Sl) (b1_2 : Sl) (K : Sl → World → Prop) (w : World) : Prop :=
  Calls Try.prog 62 #[.slice a0_1.a a0_1.n a0_1.c, .slice b1_2.a b1_2.n b1_2.c, .bool true, .bool true, .bool true] w fun e w_4 => ∃ (t7_3 : Sl), e = .returned (.slice t7_3.a t7_3.n t7_3.c : Value) ∧
  K t7_3 w_4
set_option maxHeartbeats 4000000 in
set_option maxRecDepth 20000 in
theorem F17_sound (a0_1 : Sl) (b1_2 : Sl) (K : Sl → World → Prop) (w : World) (h : F17 a0_1 b1_2 K w) :
    Calls Try.prog 17 #[.slice a0_1.a a0_1.n a0_1.c, .slice b1_2.a b1_2.n b1_2.c] w (fun e w1 => ∃ (r0 : Sl), e = .returned (.slice r0.a r0.n r0.c : Value) ∧ K r0 w1) := by
  unfold F17 at h
  refine y_enter (n := 8) (args := [.slice a0_1.a a0_1.n a0_1.c, .slice b1_2.a b1_2.n b1_2.c]) Try.func17 rfl rfl rfl fun Q0 hQ0 => ?_
  refine y_seq fun K1 hK1 => ?_
  refine y_region ?_
  refine y_k (.slice none 0 0 : Value) w rfl rfl rfl (by kernel_rfl) ?_
  refine y_nil ?_
  refine y_then (hK1 _ _ ?_)
  refine y_seq fun K2 hK2 => ?_
  refine y_region ?_
  refine y_k (.slice a0_1.a a0_1.n a0_1.c : Value) w rfl rfl rfl (by kernel_rfl) ?_
  refine y_k (.slice b1_2.a b1_2.n b1_2.c : Value) w rfl rfl rfl (by kernel_rfl) ?_
  refine y_call rfl rfl rfl (by kernel_rfl) (h.mono ?_)
  rintro _ w_4 ⟨t7_3, rfl, h⟩
  refine ⟨_, rfl, ?_⟩
  refine y_k (.slice t7_3.a t7_3.n t7_3.c : Value) w_4 rfl rfl rfl (by kernel_rfl) ?_
  refine y_nil ?_
  refine y_then (hK2 _ _ ?_)
  refine y_ret ?_
  repeat (first | refine e_then_r ?_ | refine e_block_r ?_)
  exact (hQ0 _ _ _ (res1 (v := (.slice t7_3.a t7_3.n t7_3.c : Value)) rfl rfl rfl) ⟨_, rfl, h⟩).1

/-- turnkey/post.Not -/
def F18 (a0_1 : Sl) (b1_2 : Sl) (K : Sl → World → Prop) (w : World) : Prop :=
  Calls Try.prog 62 #[.slice a0_1.a a0_1.n a0_1.c, .slice b1_2.a b1_2.n b1_2.c, .bool true, .bool false, .bool false] w fun e w_4 => ∃ (t7_3 : Sl), e = .returned (.slice t7_3.a t7_3.n t7_3.c : Value) ∧
  K t7_3 w_4
set_option maxHeartbeats 4000000 in
set_option maxRecDepth 20000 in
theorem F18_sound (a0_1 : Sl) (b1_2 : Sl) (K : Sl → World → Prop) (w : World) (h : F18 a0_1 b1_2 K w) :
    Calls Try.prog 18 #[.slice a0_1.a a0_1.n a0_1.c, .slice b1_2.a b1_2.n b1_2.c] w (fun e w1 => ∃ (r0 : Sl), e = .returned (.slice r0.a r0.n r0.c : Value) ∧ K r0 w1) := by
  unfold F18 at h
  refine y_enter (n := 8) (args := [.slice a0_1.a a0_1.n a0_1.c, .slice b1_2.a b1_2.n b1_2.c]) Try.func18 rfl rfl rfl fun Q0 hQ0 => ?_
  refine y_seq fun K1 hK1 => ?_
  refine y_region ?_
  refine y_k (.slice none 0 0 : Value) w rfl rfl rfl (by kernel_rfl) ?_
  refine y_nil ?_
  refine y_then (hK1 _ _ ?_)
  refine y_seq fun K2 hK2 => ?_
  refine y_region ?_
  refine y_k (.slice a0_1.a a0_1.n a0_1.c : Value) w rfl rfl rfl (by kernel_rfl) ?_
  refine y_k (.slice b1_2.a b1_2.n b1_2.c : Value) w rfl rfl rfl (by kernel_rfl) ?_
  refine y_call rfl rfl rfl (by kernel_rfl) (h.mono ?_)
  rintro _ w_4 ⟨t7_3, rfl, h⟩
  refine ⟨_, rfl, ?_⟩
  refine y_k (.slice t7_3.a t7_3.n t7_3.c : Value) w_4 rfl rfl rfl (by kernel_rfl) ?_
  refine y_nil ?_
  refine y_then (hK2 _ _ ?_)
  refine y_ret ?_
  repeat (first | refine e_then_r ?_ | refine e_block_r ?_)
  exact (hQ0 _ _ _ (res1 (v := (.slice t7_3.a t7_3.n t7_3.c : Value)) rfl rfl rfl) ⟨_, rfl, h⟩).1

/-- slices.isNaN[uint32] -/
def F92 (x0_1 : Int) (K : Bool → World → Prop) (w : World) : Prop :=
  K ((x0_1 != x0_1)) w
set_option maxHeartbeats 4000000 in
set_option maxRecDepth 20000 in
theorem F92_sound (x0_1 : Int) (K : Bool → World → Prop) (w : World) (h : F92 x0_1 K w) :
    Calls Try.prog 92 #[.int .u32 x0_1] w (fun e w1 => ∃ (r0 : Bool), e = .returned (.bool r0 : Value) ∧ K r0 w1) := by
  unfold F92 at h
  refine y_enter (n := 6) (args := [.int .u32 x0_1]) Try.func92 rfl rfl rfl fun Q0 hQ0 => ?_
  refine y_seq fun K1 hK1 => ?_
  refine y_region ?_
  refine y_k (.bool false : Value) w rfl rfl rfl (by kernel_rfl) ?_
  refine y_nil ?_
  refine y_then (hK1 _ _ ?_)
  refine y_seq fun K2 hK2 => ?_
  refine y_region ?_
  refine y_k (.int .u32 x0_1 : Value) w rfl rfl rfl (by kernel_rfl) ?_
  refine y_k (.int .u32 x0_1 : Value) w rfl rfl rfl (by kernel_rfl) ?_
  refine y_k (.bool ((x0_1 != x0_1)) : Value) w rfl rfl rfl (by kernel_rfl) ?_
  refine y_k (.bool ((x0_1 != x0_1)) : Value) w rfl rfl rfl (by kernel_rfl) ?_
  refine y_nil ?_
  refine y_then (hK2 _ _ ?_)
  refine y_ret ?_
  repeat (first | refine e_then_r ?_ | refine e_block_r ?_)
  exact (hQ0 _ _ _ (res1 (v := (.bool ((x0_1 != x0_1)) : Value)) rfl rfl rfl) ⟨_, rfl, h⟩).1

/-- cmp.isNaN[uint32] -/
def F108 (x0_1 : Int) (K : Bool → World → Prop) (w : World) : Prop :=
  K ((x0_1 != x0_1)) w
set_option maxHeartbeats 4000000 in
set_option maxRecDepth 20000 in
theorem F108_sound (x0_1 : Int) (K : Bool → World → Prop) (w : World) (h : F108 x0_1 K w) :
    Calls Try.prog 108 #[.int .u32 x0_1] w (fun e w1 => ∃ (r0 : Bool), e = .returned (.bool r0 : Value) ∧ K r0 w1) := by
  unfold F108 at h
  refine y_enter (n := 6) (args := [.int .u32 x0_1]) Try.func108 rfl rfl rfl fun Q0 hQ0 => ?_
  refine y_seq fun K1 hK1 => ?_
  refine y_region ?_
  refine y_k (.bool false : Value) w rfl rfl rfl (by kernel_rfl) ?_
  refine y_nil ?_
  refine y_then (hK1 _ _ ?_)
  refine y_seq fun K2 hK2 => ?_
  refine y_region ?_
  refine y_k (.int .u32 x0_1 : Value) w rfl rfl rfl (by kernel_rfl) ?_
  refine y_k (.int .u32 x0_1 : Value) w rfl rfl rfl (by kernel_rfl) ?_
  refine y_k (.bool ((x0_1 != x0_1)) : Value) w rfl rfl rfl (by kernel_rfl) ?_
  refine y_k (.bool ((x0_1 != x0_1)) : Value) w rfl rfl rfl (by kernel_rfl) ?_
  refine y_nil ?_
  refine y_then (hK2 _ _ ?_)
  refine y_ret ?_
  repeat (first | refine e_then_r ?_ | refine e_block_r ?_)
  exact (hQ0 _ _ _ (res1 (v := (.bool ((x0_1 != x0_1)) : Value)) rfl rfl rfl) ⟨_, rfl, h⟩).1

def F91_j1 (K : Bool → World → Prop) (t4_7 : Bool) (w_8 : World) : Prop :=
  K t4_7 w_8
/-- cmp.Less[uint32] -/
def F91 (x0_1 : Int) (y1_2 : Int) (K : Bool → World → Prop) (w : World) : Prop :=
  Calls Try.prog 108 #[.int .u32 x0_1] w fun e w_4 => ∃ (t6_3 : Bool), e = .returned (.bool t6_3 : Value) ∧
  ((t6_3 = true →
  Calls Try.prog 108 #[.int .u32 y1_2] w_4 fun e w_6 => ∃ (t9_5 : Bool), e = .returned (.bool t9_5 : Value) ∧
  ((t9_5 = false →
  F91_j1 K true w_6) ∧
  (t9_5 = true →
  F91_j1 K (decide (x0_1 < y1_2)) w_6))) ∧
  (t6_3 = false →
  F91_j1 K (decide (x0_1 < y1_2)) w_4))
set_option maxHeartbeats 4000000 in
set_option maxRecDepth 20000 in
theorem F91_sound (x0_1 : Int) (y1_2 : Int) (K : Bool → World → Prop) (w : World) (h : F91 x0_1 y1_2 K w) :
    Calls Try.prog 91 #[.int .u32 x0_1, .int .u32 y1_2] w (fun e w1 => ∃ (r0 : Bool), e = .returned (.bool r0 : Value) ∧ K r0 w1) := by
  unfold F91 at h
  refine y_enter (n := 17) (args := [.int .u32 x0_1, .int .u32 y1_2]) Try.func91 rfl rfl rfl fun Q0 hQ0 => ?_
  refine y_seq fun K1 hK1 => ?_
  refine y_region ?_
  refine y_k (.bool false : Value) w rfl rfl rfl (by kernel_rfl) ?_
  refine y_nil ?_
  refine y_then (hK1 _ _ ?_)
  refine y_seq fun K2 hK2 => ?_
  have hjK2 : ∀ (f : Fr) (t4_7 : Bool) (w_8 : World), f 4 = (.bool t4_7 : Value) → F91_j1 K t4_7 w_8 → WK K2 17 f w_8 := by
    intro f t4_7 w_8 e4 h
    refine y_atf (upd_id rfl e4) ?_
    clear e4
    unfold F91_j1 at h
    refine hK2 _ _ ?_
    refine y_ret ?_
    repeat (first | refine e_then_r ?_ | refine e_block_r ?_)
    exact (hQ0 _ _ _ (res1 (v := (.bool t4_7 : Value)) rfl rfl rfl) ⟨_, rfl, h⟩).1
  refine y_region ?_
  refine y_k (.int .u32 x0_1 : Value) w rfl rfl rfl (by kernel_rfl) ?_
  refine y_call rfl rfl rfl (by kernel_rfl) (h.mono ?_)
  rintro _ w_4 ⟨t6_3, rfl, h⟩
  refine ⟨_, rfl, ?_⟩
  refine y_k (.bool t6_3 : Value) w_4 rfl rfl rfl (by kernel_rfl) ?_
  refine y_fork (t6_3) (fun hb3 => ?_) (fun hb3 => ?_)
  · replace h := h.1 (hb3)
    refine y_frame (upd_id (i := 7) (v := .bool true) rfl (congrArg Value.bool hb3)) ?_
    refine y_gyes rfl rfl rfl ?_
    refine y_k (.int .u32 y1_2 : Value) w_4 rfl rfl rfl (by kernel_rfl) ?_
    refine y_gyes rfl rfl rfl ?_
    refine y_call rfl rfl rfl (by kernel_rfl) (h.mono ?_)
    rintro _ w_6 ⟨t9_5, rfl, h⟩
    refine ⟨_, rfl, ?_⟩
    refine y_gyes rfl rfl rfl ?_
    refine y_k (.bool (!(t9_5)) : Value) w_6 rfl rfl rfl (by kernel_rfl) ?_
    refine y_k (.bool (!(t9_5)) : Value) w_6 rfl rfl rfl (by kernel_rfl) ?_
    refine y_k (.bool (!(t9_5)) : Value) w_6 rfl rfl rfl (by kernel_rfl) ?_
    refine y_fork (!(t9_5)) (fun hb4 => ?_) (fun hb4 => ?_)
    · replace h := h.1 ((not_true_of hb4))
      refine y_frame (upd_id (i := 12) (v := .bool true) rfl (congrArg Value.bool hb4)) ?_
      refine y_gno rfl rfl rfl rfl ?_
      refine y_gno rfl rfl rfl rfl ?_
      refine y_gno rfl rfl rfl rfl ?_
      refine y_k (.bool true : Value) w_6 rfl rfl rfl (by kernel_rfl) ?_
      refine y_k (.bool true : Value) w_6 rfl rfl rfl (by kernel_rfl) ?_
      refine y_nil ?_
      exact y_then (hjK2 _ true w_6 rfl h)
    · replace h := h.2 ((not_false_of hb4))
      refine y_frame (upd_id (i := 12) (v := .bool false) rfl (congrArg Value.bool hb4)) ?_
      refine y_gyes rfl rfl rfl ?_
      refine y_k (.int .u32 x0_1 : Value) w_6 rfl rfl rfl (by kernel_rfl) ?_
      refine y_gyes rfl rfl rfl ?_
      refine y_k (.int .u32 y1_2 : Value) w_6 rfl rfl rfl (by kernel_rfl) ?_
      refine y_gyes rfl rfl rfl ?_
      refine y_k (.bool (decide (x0_1 < y1_2)) : Value) w_6 rfl rfl rfl (by kernel_rfl) ?_
      refine y_k (.bool (decide (x0_1 < y1_2)) : Value) w_6 rfl rfl rfl (by kernel_rfl) ?_
      refine y_k (.bool (decide (x0_1 < y1_2)) : Value) w_6 rfl rfl rfl (by kernel_rfl) ?_
      refine y_nil ?_
      exact y_then (hjK2 _ (decide (x0_1 < y1_2)) w_6 rfl h)
  · replace h := h.2 (hb3)
    refine y_frame (upd_id (i := 7) (v := .bool false) rfl (congrArg Value.bool hb3)) ?_
    refine y_gno rfl rfl rfl rfl ?_
    refine y_gno rfl rfl rfl rfl ?_
    refine y_gno rfl rfl rfl rfl ?_
    refine y_k (.bool false : Value) w_4 rfl rfl rfl (by kernel_rfl) ?_
    refine y_k (.bool false : Value) w_4 rfl rfl rfl (by kernel_rfl) ?_
    refine y_gyes rfl rfl rfl ?_
    refine y_k (.int .u32 x0_1 : Value) w_4 rfl rfl rfl (by kernel_rfl) ?_
    refine y_gyes rfl rfl rfl ?_
    refine y_k (.int .u32 y1_2 : Value) w_4 rfl rfl rfl (by kernel_rfl) ?_
    refine y_gyes rfl rfl rfl ?_
    refine y_k (.bool (decide (x0_1 < y1_2)) : Value) w_4 rfl rfl rfl (by kernel_rfl) ?_
    refine y_k (.bool (decide (x0_1 < y1_2)) : Value) w_4 rfl rfl rfl (by kernel_rfl) ?_
    refine y_k (.bool (decide (x0_1 < y1_2)) : Value) w_4 rfl rfl rfl (by kernel_rfl) ?_
    refine y_nil ?_
    exact y_then (hjK2 _ (decide (x0_1 < y1_2)) w_4 rfl h)

def F64_j2 (K : Int → Bool → World → Prop) (t4_12 : Int) (t5_13 : Bool) (w_14 : World) : Prop :=
  K t4_12 t5_13 w_14
def F64_l1 (x0_1 : Sl) (target1_2 : Int) (K : Int → Bool → World → Prop) (next6 : (Int × Int) → World → Prop) : (Int × Int) → World → Prop := fun (i7_3, j8_4) w_5 =>
  ((i7_3 < j8_4 →
  (0 : Int) ≤ (IntKind.i64.wrap (Int.fdiv (IntKind.u64.wrap (IntKind.i64.wrap (i7_3 + j8_4))) (2 ^ 1))) ∧ (IntKind.i64.wrap (Int.fdiv (IntKind.u64.wrap (IntKind.i64.wrap (i7_3 + j8_4))) (2 ^ 1))) < (x0_1.n : Int) ∧ ∃ (a_6 : Addr), x0_1.a = some a_6 ∧
  ∃ (t25_7 : Int), w_5.cell? (a_6.add (Int.toNat (IntKind.i64.wrap (Int.fdiv (IntKind.u64.wrap (IntKind.i64.wrap (i7_3 + j8_4))) (2 ^ 1))))) = some (.int .u32 t25_7) ∧
  Calls Try.prog 91 #[.int .u32 t25_7, .int .u32 target1_2] w_5 fun e w_9 => ∃ (t27_8 : Bool), e = .returned (.bool t27_8 : Value) ∧
  ((t27_8 = true →
  next6 (IntKind.i64.wrap ((IntKind.i64.wrap (Int.fdiv (IntKind.u64.wrap (IntKind.i64.wrap (i7_3 + j8_4))) (2 ^ 1))) + 1), j8_4) w_9) ∧
  (t27_8 = false →
  next6 (i7_3, IntKind.i64.wrap (Int.fdiv (IntKind.u64.wrap (IntKind.i64.wrap (i7_3 + j8_4))) (2 ^ 1))) w_9))) ∧
  (¬ (i7_3 < j8_4) →
  ((i7_3 < ((x0_1.n : Int)) →
  (0 : Int) ≤ i7_3 ∧ i7_3 < (x0_1.n : Int) ∧ ∃ (a_10 : Addr), x0_1.a = some a_10 ∧
  ∃ (t39_11 : Int), w_5.cell? (a_10.add (Int.toNat i7_3)) = some (.int .u32 t39_11) ∧
  ((t39_11 = target1_2 →
  F64_j2 K i7_3 true w_5) ∧
  (¬ t39_11 = target1_2 →
  (0 : Int) ≤ i7_3 ∧ i7_3 < (x0_1.n : Int) ∧ ∃ (a_15 : Addr), x0_1.a = some a_15 ∧
  ∃ (t46_16 : Int), w_5.cell? (a_15.add (Int.toNat i7_3)) = some (.int .u32 t46_16) ∧
  Calls Try.prog 92 #[.int .u32 t46_16] w_5 fun e w_18 => ∃ (t47_17 : Bool), e = .returned (.bool t47_17 : Value) ∧
  ((t47_17 = true →
  Calls Try.prog 92 #[.int .u32 target1_2] w_18 fun e w_20 => ∃ (t50_19 : Bool), e = .returned (.bool t50_19 : Value) ∧
  F64_j2 K i7_3 t50_19 w_20) ∧
  (t47_17 = false →
  F64_j2 K i7_3 false w_18))))) ∧
  (¬ (i7_3 < ((x0_1.n : Int))) →
  F64_j2 K i7_3 false w_5))))
/-- slices.BinarySearch[[]uint32,uint32] -/
def F64 (x0_1 : Sl) (target1_2 : Int) (K : Int → Bool → World → Prop) (w : World) : Prop :=
  kLoop (F64_l1 x0_1 target1_2 K) (0, (x0_1.n : Int)) w
set_option maxHeartbeats 4000000 in
set_option maxRecDepth 20000 in
theorem F64_sound (x0_1 : Sl) (target1_2 : Int) (K : Int → Bool → World → Prop) (w : World) (h : F64 x0_1 target1_2 K w) :
    Calls Try.prog 64 #[.slice x0_1.a x0_1.n x0_1.c, .int .u32 target1_2] w (fun e w1 => ∃ (r0 : Int), ∃ (r1 : Bool), e = .returned (.tuple #[.int .i64 r0, .bool r1]) ∧ K r0 r1 w1) := by
  unfold F64 at h
  refine y_enter (n := 54) (args := [.slice x0_1.a x0_1.n x0_1.c, .int .u32 target1_2]) Try.func64 rfl rfl rfl fun Q0 hQ0 => ?_
  refine y_seq fun K1 hK1 => ?_
  refine y_region ?_
  refine y_k (.int .i64 0 : Value) w rfl rfl rfl (by kernel_rfl) ?_
  refine y_k (.bool false : Value) w rfl rfl rfl (by kernel_rfl) ?_
  refine y_nil ?_
  refine y_then (hK1 _ _ ?_)
  refine y_seq fun K2 hK2 => ?_
  refine y_region ?_
  refine y_k (.slice x0_1.a x0_1.n x0_1.c : Value) w rfl rfl rfl (by kernel_rfl) ?_
  refine y_k (.int .i64 ((x0_1.n : Int)) : Value) w rfl rfl rfl (by kernel_rfl) ?_
  refine y_k (.int .i64 ((x0_1.n : Int)) : Value) w rfl rfl rfl (by kernel_rfl) ?_
  refine y_nil ?_
  refine y_then (hK2 _ _ ?_)
  refine y_seq fun K3 hK3 => ?_
  refine y_region ?_
  refine y_k (.int .i64 ((x0_1.n : Int)) : Value) w rfl rfl rfl (by kernel_rfl) ?_
  refine y_k (.int .i64 0 : Value) w rfl rfl rfl (by kernel_rfl) ?_
  refine y_k (.int .i64 ((x0_1.n : Int)) : Value) w rfl rfl rfl (by kernel_rfl) ?_
  refine y_nil ?_
  refine y_then (hK3 _ _ ?_)
  refine y_seq fun K4 hK4 => ?_
  refine y_block ?_
  refine y_loop (S := Int × Int) (fun s j => match s with | (i7_3, j8_4) => upd (upd (upd (upd (upd (j) 0 (.slice x0_1.a x0_1.n x0_1.c : Value)) 1 (.int .u32 target1_2 : Value)) 6 (.int .i64 ((x0_1.n : Int)) : Value)) 7 (.int .i64 i7_3 : Value)) 8 (.int .i64 j8_4 : Value)) (0, (x0_1.n : Int)) ?_ h ?_
  · dsimp only
    refine upd_id ?_ rfl
    refine upd_id ?_ rfl
    refine upd_id ?_ rfl
    refine upd_id ?_ rfl
    refine upd_id ?_ rfl
    rfl
  rintro KN7 next6 hN7 ⟨i7_3, j8_4⟩ j w_5 h
  unfold F64_l1 at h
  refine y_seq fun K8 hK8 => ?_
  refine y_seq fun K9 hK9 => ?_
  refine y_region ?_
  refine y_k (.int .i64 i7_3 : Value) w_5 rfl rfl rfl (by kernel_rfl) ?_
  refine y_k (.int .i64 j8_4 : Value) w_5 rfl rfl rfl (by kernel_rfl) ?_
  refine y_k (.bool (decide (i7_3 < j8_4)) : Value) w_5 rfl rfl rfl (by kernel_rfl) ?_
  refine y_nil ?_
  refine y_then (hK9 _ _ ?_)
  refine y_cond (decide (i7_3 < j8_4)) rfl rfl (fun hb24 => ?_) (fun hb24 => ?_)
  · replace h := h.1 (of_decide_eq_true hb24)
    refine y_skip ?_
    refine y_then (hK8 _ _ ?_)
    refine y_block ?_
    refine y_seq fun K11 hK11 => ?_
    refine y_region ?_
    refine y_k (.int .i64 i7_3 : Value) w_5 rfl rfl rfl (by kernel_rfl) ?_
    refine y_k (.int .i64 j8_4 : Value) w_5 rfl rfl rfl (by kernel_rfl) ?_
    refine y_k (.int .i64 (IntKind.i64.wrap (i7_3 + j8_4)) : Value) w_5 rfl rfl rfl (by kernel_rfl) ?_
    refine y_k (.int .u64 (IntKind.u64.wrap (IntKind.i64.wrap (i7_3 + j8_4))) : Value) w_5 rfl rfl rfl (by kernel_rfl) ?_
    refine y_k (.int .u64 (Int.fdiv (IntKind.u64.wrap (IntKind.i64.wrap (i7_3 + j8_4))) (2 ^ 1)) : Value) w_5 rfl rfl rfl (by kernel_rfl) ?_
    refine y_k (.int .i64 (IntKind.i64.wrap (Int.fdiv (IntKind.u64.wrap (IntKind.i64.wrap (i7_3 + j8_4))) (2 ^ 1))) : Value) w_5 rfl rfl rfl (by kernel_rfl) ?_
    refine y_k (.int .i64 (IntKind.i64.wrap (Int.fdiv (IntKind.u64.wrap (IntKind.i64.wrap (i7_3 + j8_4))) (2 ^ 1))) : Value) w_5 rfl rfl rfl (by kernel_rfl) ?_
    refine y_nil ?_
    refine y_then (hK11 _ _ ?_)
    refine y_seq fun K12 hK12 => ?_
    refine y_region ?_
    refine y_k (.slice x0_1.a x0_1.n x0_1.c : Value) w_5 rfl rfl rfl (by kernel_rfl) ?_
    refine y_k (.int .i64 (IntKind.i64.wrap (Int.fdiv (IntKind.u64.wrap (IntKind.i64.wrap (i7_3 + j8_4))) (2 ^ 1))) : Value) w_5 rfl rfl rfl (by kernel_rfl) ?_
    obtain ⟨hx13a, hx13b, a_6, hx13, h⟩ := h
    refine y_v (v := (.pointer (some (a_6.add (Int.toNat (IntKind.i64.wrap (Int.fdiv (IntKind.u64.wrap (IntKind.i64.wrap (i7_3 + j8_4))) (2 ^ 1)))))) : Value)) (s := Instr.indexAt 22 (.slice x0_1.a x0_1.n x0_1.c : Value) (.int .i64 (IntKind.i64.wrap (Int.fdiv (IntKind.u64.wrap (IntKind.i64.wrap (i7_3 + j8_4))) (2 ^ 1))) : Value)) rfl rfl rfl (by kernel_rfl) (run_ixs1 (el := 23) (by kernel_rfl) (by kernel_rfl) hx13 hx13a hx13b) ?_
    obtain ⟨t25_7, hx14, h⟩ := h
    refine y_v (s := Instr.loadAt 23 (.pointer (some (a_6.add (Int.toNat (IntKind.i64.wrap (Int.fdiv (IntKind.u64.wrap (IntKind.i64.wrap (i7_3 + j8_4))) (2 ^ 1)))))))) rfl rfl rfl (by kernel_rfl) (rn_load (by kernel_rfl) hx14) ?_
    refine y_k (.int .u32 target1_2 : Value) w_5 rfl rfl rfl (by kernel_rfl) ?_
    refine y_call rfl rfl rfl (by kernel_rfl) (h.mono ?_)
    rintro _ w_9 ⟨t27_8, rfl, h⟩
    refine ⟨_, rfl, ?_⟩
    refine y_nil ?_
    refine y_then (hK12 _ _ ?_)
    refine y_cond (t27_8) rfl rfl (fun hb15 => ?_) (fun hb15 => ?_)
    · replace h := h.1 (hb15)
      refine y_region ?_
      refine y_k (.int .i64 (IntKind.i64.wrap (Int.fdiv (IntKind.u64.wrap (IntKind.i64.wrap (i7_3 + j8_4))) (2 ^ 1))) : Value) w_9 rfl rfl rfl (by kernel_rfl) ?_
      refine y_k (.int .i64 (IntKind.i64.wrap ((IntKind.i64.wrap (Int.fdiv (IntKind.u64.wrap (IntKind.i64.wrap (i7_3 + j8_4))) (2 ^ 1))) + 1)) : Value) w_9 rfl rfl rfl (by kernel_rfl) ?_
      refine y_k (.int .i64 (IntKind.i64.wrap ((IntKind.i64.wrap (Int.fdiv (IntKind.u64.wrap (IntKind.i64.wrap (i7_3 + j8_4))) (2 ^ 1))) + 1)) : Value) w_9 rfl rfl rfl (by kernel_rfl) ?_
      refine y_nil ?_
      refine e_block_n ?_
      refine y_then (hN7 (IntKind.i64.wrap ((IntKind.i64.wrap (Int.fdiv (IntKind.u64.wrap (IntKind.i64.wrap (i7_3 + j8_4))) (2 ^ 1))) + 1), j8_4) _ _ h ?_)
      dsimp only
      refine upd_id ?_ rfl
      refine upd_id ?_ rfl
      refine upd_id ?_ rfl
      refine upd_id ?_ rfl
      refine upd_id ?_ rfl
      rfl
    · replace h := h.2 (hb15)
      refine y_region ?_
      refine y_k (.int .i64 (IntKind.i64.wrap (Int.fdiv (IntKind.u64.wrap (IntKind.i64.wrap (i7_3 + j8_4))) (2 ^ 1))) : Value) w_9 rfl rfl rfl (by kernel_rfl) ?_
      refine y_k (.int .i64 (IntKind.i64.wrap (Int.fdiv (IntKind.u64.wrap (IntKind.i64.wrap (i7_3 + j8_4))) (2 ^ 1))) : Value) w_9 rfl rfl rfl (by kernel_rfl) ?_
      refine y_nil ?_
      refine e_block_n ?_
      refine y_then (hN7 (i7_3, IntKind.i64.wrap (Int.fdiv (IntKind.u64.wrap (IntKind.i64.wrap (i7_3 + j8_4))) (2 ^ 1))) _ _ h ?_)
      dsimp only
      refine upd_id ?_ rfl
      refine upd_id ?_ rfl
      refine upd_id ?_ rfl
      refine upd_id ?_ rfl
      refine upd_id ?_ rfl
      rfl
  · replace h := h.2 (of_decide_eq_false hb24)
    refine y_exit ?_
    repeat (first | refine e_then_x ?_ | refine e_block_y rfl ?_)
    refine e_block_x ?_
    refine y_then (hK4 _ _ ?_)
    refine y_seq fun K16 hK16 => ?_
    have hjK16 : ∀ (f : Fr) (t4_12 : Int) (t5_13 : Bool) (w_14 : World), f 4 = (.int .i64 t4_12 : Value) → f 5 = (.bool t5_13 : Value) → F64_j2 K t4_12 t5_13 w_14 → WK K16 54 f w_14 := by
      intro f t4_12 t5_13 w_14 e4 e5 h
      refine y_atf (upd_id (upd_id rfl e4) e5) ?_
      clear e4 e5
      unfold F64_j2 at h
      refine hK16 _ _ ?_
      refine y_ret ?_
      repeat (first | refine e_then_r ?_ | refine e_block_r ?_)
      exact (hQ0 _ _ _ (res2 (v1 := (.int .i64 t4_12 : Value)) (v2 := (.bool t5_13 : Value)) rfl rfl rfl rfl) ⟨_, _, rfl, h⟩).1
    refine y_region ?_
    refine y_k (.int .i64 i7_3 : Value) w_5 rfl rfl rfl (by kernel_rfl) ?_
    refine y_k (.int .i64 i7_3 : Value) w_5 rfl rfl rfl (by kernel_rfl) ?_
    refine y_k (.int .i64 ((x0_1.n : Int)) : Value) w_5 rfl rfl rfl (by kernel_rfl) ?_
    refine y_k (.bool (decide (i7_3 < ((x0_1.n : Int)))) : Value) w_5 rfl rfl rfl (by kernel_rfl) ?_
    refine y_k (.bool (decide (i7_3 < ((x0_1.n : Int)))) : Value) w_5 rfl rfl rfl (by kernel_rfl) ?_
    refine y_fork (decide (i7_3 < ((x0_1.n : Int)))) (fun hb17 => ?_) (fun hb17 => ?_)
    · replace h := h.1 (of_decide_eq_true hb17)
      refine y_frame (upd_id (i := 35) (v := .bool true) rfl (congrArg Value.bool hb17)) ?_
      refine y_gyes rfl rfl rfl ?_
      refine y_k (.slice x0_1.a x0_1.n x0_1.c : Value) w_5 rfl rfl rfl (by kernel_rfl) ?_
      refine y_gyes rfl rfl rfl ?_
      refine y_k (.int .i64 i7_3 : Value) w_5 rfl rfl rfl (by kernel_rfl) ?_
      refine y_gyes rfl rfl rfl ?_
      obtain ⟨hx18a, hx18b, a_10, hx18, h⟩ := h
      refine y_v (v := (.pointer (some (a_10.add (Int.toNat i7_3))) : Value)) (s := Instr.indexAt 22 (.slice x0_1.a x0_1.n x0_1.c : Value) (.int .i64 i7_3 : Value)) rfl rfl rfl (by kernel_rfl) (run_ixs1 (el := 23) (by kernel_rfl) (by kernel_rfl) hx18 hx18a hx18b) ?_
      refine y_gyes rfl rfl rfl ?_
      obtain ⟨t39_11, hx19, h⟩ := h
      refine y_v (s := Instr.loadAt 23 (.pointer (some (a_10.add (Int.toNat i7_3))))) rfl rfl rfl (by kernel_rfl) (rn_load (by kernel_rfl) hx19) ?_
      refine y_gyes rfl rfl rfl ?_
      refine y_k (.int .u32 target1_2 : Value) w_5 rfl rfl rfl (by kernel_rfl) ?_
      refine y_gyes rfl rfl rfl ?_
      refine y_k (.bool ((t39_11 == target1_2)) : Value) w_5 rfl rfl rfl (by kernel_rfl) ?_
      refine y_gyes rfl rfl rfl ?_
      refine y_k (.bool ((t39_11 == target1_2)) : Value) w_5 rfl rfl rfl (by kernel_rfl) ?_
      refine y_fork ((t39_11 == target1_2)) (fun hb20 => ?_) (fun hb20 => ?_)
      · replace h := h.1 (eq_of_beq hb20)
        refine y_frame (upd_id (i := 42) (v := .bool true) rfl (congrArg Value.bool hb20)) ?_
        refine y_gno rfl rfl rfl rfl ?_
        refine y_gno rfl rfl rfl rfl ?_
        refine y_gno rfl rfl rfl rfl ?_
        refine y_gno rfl rfl rfl rfl ?_
        refine y_gno rfl rfl rfl rfl ?_
        refine y_gno rfl rfl rfl rfl ?_
        refine y_gud rfl rfl rfl rfl ?_
        refine y_gud rfl rfl rfl rfl ?_
        refine y_gno rfl rfl rfl rfl ?_
        refine y_gyes rfl rfl rfl ?_
        refine y_k (.bool true : Value) w_5 rfl rfl rfl (by kernel_rfl) ?_
        refine y_k (.bool true : Value) w_5 rfl rfl rfl (by kernel_rfl) ?_
        refine y_k (.int .i64 i7_3 : Value) w_5 rfl rfl rfl (by kernel_rfl) ?_
        refine y_k (.bool true : Value) w_5 rfl rfl rfl (by kernel_rfl) ?_
        refine y_nil ?_
        exact y_then (hjK16 _ i7_3 true w_5 rfl rfl h)
      · replace h := h.2 (beq_eq_false_iff_ne.mp hb20)
        refine y_frame (upd_id (i := 42) (v := .bool false) rfl (congrArg Value.bool hb20)) ?_
        refine y_gyes rfl rfl rfl ?_
        refine y_k (.slice x0_1.a x0_1.n x0_1.c : Value) w_5 rfl rfl rfl (by kernel_rfl) ?_
        refine y_gyes rfl rfl rfl ?_
        refine y_k (.int .i64 i7_3 : Value) w_5 rfl rfl rfl (by kernel_rfl) ?_
        refine y_gyes rfl rfl rfl ?_
        obtain ⟨hx21a, hx21b, a_15, hx21, h⟩ := h
        refine y_v (v := (.pointer (some (a_15.add (Int.toNat i7_3))) : Value)) (s := Instr.indexAt 22 (.slice x0_1.a x0_1.n x0_1.c : Value) (.int .i64 i7_3 : Value)) rfl rfl rfl (by kernel_rfl) (run_ixs1 (el := 23) (by kernel_rfl) (by kernel_rfl) hx21 hx21a hx21b) ?_
        refine y_gyes rfl rfl rfl ?_
        obtain ⟨t46_16, hx22, h⟩ := h
        refine y_v (s := Instr.loadAt 23 (.pointer (some (a_15.add (Int.toNat i7_3))))) rfl rfl rfl (by kernel_rfl) (rn_load (by kernel_rfl) hx22) ?_
        refine y_gyes rfl rfl rfl ?_
        refine y_call rfl rfl rfl (by kernel_rfl) (h.mono ?_)
        rintro _ w_18 ⟨t47_17, rfl, h⟩
        refine ⟨_, rfl, ?_⟩
        refine y_gyes rfl rfl rfl ?_
        refine y_k (.bool t47_17 : Value) w_18 rfl rfl rfl (by kernel_rfl) ?_
        refine y_fork (t47_17) (fun hb23 => ?_) (fun hb23 => ?_)
        · replace h := h.1 (hb23)
          refine y_frame (upd_id (i := 48) (v := .bool true) rfl (congrArg Value.bool hb23)) ?_
          refine y_gyes rfl rfl rfl ?_
          refine y_k (.int .u32 target1_2 : Value) w_18 rfl rfl rfl (by kernel_rfl) ?_
          refine y_gyes rfl rfl rfl ?_
          refine y_call rfl rfl rfl (by kernel_rfl) (h.mono ?_)
          rintro _ w_20 ⟨t50_19, rfl, h⟩
          refine ⟨_, rfl, ?_⟩
          refine y_gyes rfl rfl rfl ?_
          refine y_k (.bool t50_19 : Value) w_20 rfl rfl rfl (by kernel_rfl) ?_
          refine y_gyes rfl rfl rfl ?_
          refine y_k (.bool t50_19 : Value) w_20 rfl rfl rfl (by kernel_rfl) ?_
          refine y_k (.bool t50_19 : Value) w_20 rfl rfl rfl (by kernel_rfl) ?_
          refine y_k (.int .i64 i7_3 : Value) w_20 rfl rfl rfl (by kernel_rfl) ?_
          refine y_k (.bool t50_19 : Value) w_20 rfl rfl rfl (by kernel_rfl) ?_
          refine y_nil ?_
          exact y_then (hjK16 _ i7_3 t50_19 w_20 rfl rfl h)
        · replace h := h.2 (hb23)
          refine y_frame (upd_id (i := 48) (v := .bool false) rfl (congrArg Value.bool hb23)) ?_
          refine y_gno rfl rfl rfl rfl ?_
          refine y_gno rfl rfl rfl rfl ?_
          refine y_gyes rfl rfl rfl ?_
          refine y_k (.bool false : Value) w_18 rfl rfl rfl (by kernel_rfl) ?_
          refine y_gyes rfl rfl rfl ?_
          refine y_k (.bool false : Value) w_18 rfl rfl rfl (by kernel_rfl) ?_
          refine y_k (.bool false : Value) w_18 rfl rfl rfl (by kernel_rfl) ?_
          refine y_k (.int .i64 i7_3 : Value) w_18 rfl rfl rfl (by kernel_rfl) ?_
          refine y_k (.bool false : Value) w_18 rfl rfl rfl (by kernel_rfl) ?_
          refine y_nil ?_
          exact y_then (hjK16 _ i7_3 false w_18 rfl rfl h)
    · replace h := h.2 (of_decide_eq_false hb17)
      refine y_frame (upd_id (i := 35) (v := .bool false) rfl (congrArg Value.bool hb17)) ?_
      refine y_gno rfl rfl rfl rfl ?_
      refine y_gno rfl rfl rfl rfl ?_
      refine y_gno rfl rfl rfl rfl ?_
      refine y_gno rfl rfl rfl rfl ?_
      refine y_gno rfl rfl rfl rfl ?_
      refine y_gno rfl rfl rfl rfl ?_
      refine y_gno rfl rfl rfl rfl ?_
      refine y_gud rfl rfl rfl rfl ?_
      refine y_gud rfl rfl rfl rfl ?_
      refine y_gud rfl rfl rfl rfl ?_
      refine y_gud rfl rfl rfl rfl ?_
      refine y_gud rfl rfl rfl rfl ?_
      refine y_gud rfl rfl rfl rfl ?_
      refine y_gud rfl rfl rfl rfl ?_
      refine y_gud rfl rfl rfl rfl ?_
      refine y_gud rfl rfl rfl rfl ?_
      refine y_gno rfl rfl rfl rfl ?_
      refine y_k (.bool false : Value) w_5 rfl rfl rfl (by kernel_rfl) ?_
      refine y_k (.int .i64 i7_3 : Value) w_5 rfl rfl rfl (by kernel_rfl) ?_
      refine y_k (.bool false : Value) w_5 rfl rfl rfl (by kernel_rfl) ?_
      refine y_nil ?_
      exact y_then (hjK16 _ i7_3 false w_5 rfl rfl h)

/-- slices.Clone[[]uint32,uint32] -/
def F65 (s0_1 : Sl) (K : Sl → World → Prop) (w : World) : Prop :=
  ((s0_1.a.isNone = true →
  K (⟨none, 0, 0⟩) w) ∧
  (s0_1.a.isNone = false →
  ∀ (w_2 : World), w_2 = w.alloc (.cells #[] 23) →
  ∃ (t7_3 : Sl), ∃ (w_4 : World), (Builtin.append_ #[22, 22] 22 #[.slice (some ⟨w.heap.size, 0, none⟩) 0 0, .slice s0_1.a s0_1.n s0_1.c]).run Try.prog w_2 = .ok (.slice t7_3.a t7_3.n t7_3.c : Value) w_4 ∧
  K t7_3 w_4))
set_option maxHeartbeats 4000000 in
set_option maxRecDepth 20000 in
theorem F65_sound (s0_1 : Sl) (K : Sl → World → Prop) (w : World) (h : F65 s0_1 K w) :
    Calls Try.prog 65 #[.slice s0_1.a s0_1.n s0_1.c] w (fun e w1 => ∃ (r0 : Sl), e = .returned (.slice r0.a r0.n r0.c : Value) ∧ K r0 w1) := by
  unfold F65 at h
  refine y_enter (n := 8) (args := [.slice s0_1.a s0_1.n s0_1.c]) Try.func65 rfl rfl rfl fun Q0 hQ0 => ?_
  refine y_seq fun K1 hK1 => ?_
  refine y_region ?_
  refine y_k (.slice none 0 0 : Value) w rfl rfl rfl (by kernel_rfl) ?_
  refine y_nil ?_
  refine y_then (hK1 _ _ ?_)
  refine y_seq fun K2 hK2 => ?_
  refine y_seq fun K3 hK3 => ?_
  refine y_region ?_
  refine y_k (.slice s0_1.a s0_1.n s0_1.c : Value) w rfl rfl rfl (by kernel_rfl) ?_
  refine y_v (v := (.bool s0_1.a.isNone : Value)) (s := do eqGuard .eql 22 (Operand.tmp 3) (Operand.const (Value.slice none 0 0)) (.slice s0_1.a s0_1.n s0_1.c : Value) (.slice none 0 0 : Value); binOp .eql 22 (.slice s0_1.a s0_1.n s0_1.c : Value) (.slice none 0 0 : Value)) rfl rfl rfl (by kernel_rfl) (run_eql_slicenil (by kernel_rfl)) ?_
  refine y_nil ?_
  refine y_then (hK3 _ _ ?_)
  refine y_cond (s0_1.a.isNone) rfl rfl (fun hb7 => ?_) (fun hb7 => ?_)
  · replace h := h.1 (hb7)
    refine y_seq fun K4 hK4 => ?_
    refine y_region ?_
    refine y_k (.slice none 0 0 : Value) w rfl rfl rfl (by kernel_rfl) ?_
    refine y_nil ?_
    refine y_then (hK4 _ _ ?_)
    refine y_ret ?_
    repeat (first | refine e_then_r ?_ | refine e_block_r ?_)
    exact (hQ0 _ _ _ (res1 (v := (.slice none 0 0 : Value)) rfl rfl rfl) ⟨_, rfl, h⟩).1
  · replace h := h.2 (hb7)
    refine y_skip ?_
    refine y_then (hK2 _ _ ?_)
    refine y_seq fun K5 hK5 => ?_
    refine y_region ?_
    refine y_k (.slice (some ⟨w.heap.size, 0, none⟩) 0 0 : Value) (w.alloc (.cells #[] 23)) rfl rfl rfl (by kernel_rfl) ?_
    replace h := h _ rfl
    generalize w.alloc (.cells #[] 23) = w_2 at h ⊢
    refine y_k (.slice s0_1.a s0_1.n s0_1.c : Value) w_2 rfl rfl rfl (by kernel_rfl) ?_
    obtain ⟨t7_3, w_4, hx6, h⟩ := h
    refine y_v (s := Builtin.append_ #[22, 22] 22 #[.slice (some ⟨w.heap.size, 0, none⟩) 0 0, .slice s0_1.a s0_1.n s0_1.c]) rfl rfl rfl (by kernel_rfl) hx6 ?_
    refine y_k (.slice t7_3.a t7_3.n t7_3.c : Value) w_4 rfl rfl rfl (by kernel_rfl) ?_
    refine y_nil ?_
    refine y_then (hK5 _ _ ?_)
    refine y_ret ?_
    repeat (first | refine e_then_r ?_ | refine e_block_r ?_)
    exact (hQ0 _ _ _ (res1 (v := (.slice t7_3.a t7_3.n t7_3.c : Value)) rfl rfl rfl) ⟨_, rfl, h⟩).1

def F93_j1 (K : Sl → World → Prop) (s0_7 : Sl) (w_8 : World) : Prop :=
  K s0_7 w_8
/-- slices.Grow[[]uint32,uint32] -/
def F93 (s0_1 : Sl) (n1_2 : Int) (K : Sl → World → Prop) (w : World) : Prop :=
  ((n1_2 < 0 →
  False) ∧
  (¬ (n1_2 < 0) →
  (((IntKind.i64.wrap (n1_2 - (IntKind.i64.wrap (((s0_1.c : Int)) - ((s0_1.n : Int)))))) > 0 →
  ∃ (t20_3 : Sl), (Instr.sliceAt 22 (.slice s0_1.a s0_1.n s0_1.c : Value) none (some (.int .i64 ((s0_1.c : Int)) : Value)) none).run Try.prog w = .ok (.slice t20_3.a t20_3.n t20_3.c : Value) w ∧
  ∃ (t22_4 : Sl), ∃ (w_5 : World), (Builtin.append_ #[22, 3] 22 #[.slice t20_3.a t20_3.n t20_3.c, .int .i64 (IntKind.i64.wrap (n1_2 - (IntKind.i64.wrap (((s0_1.c : Int)) - ((s0_1.n : Int))))))]).run Try.prog w = .ok (.slice t22_4.a t22_4.n t22_4.c : Value) w_5 ∧
  ∃ (t25_6 : Sl), (Instr.sliceAt 22 (.slice t22_4.a t22_4.n t22_4.c : Value) none (some (.int .i64 ((s0_1.n : Int)) : Value)) none).run Try.prog w_5 = .ok (.slice t25_6.a t25_6.n t25_6.c : Value) w_5 ∧
  F93_j1 K t25_6 w_5) ∧
  (¬ ((IntKind.i64.wrap (n1_2 - (IntKind.i64.wrap (((s0_1.c : Int)) - ((s0_1.n : Int)))))) > 0) →
  F93_j1 K s0_1 w))))
set_option maxHeartbeats 4000000 in
set_option maxRecDepth 20000 in
theorem F93_sound (s0_1 : Sl) (n1_2 : Int) (K : Sl → World → Prop) (w : World) (h : F93 s0_1 n1_2 K w) :
    Calls Try.prog 93 #[.slice s0_1.a s0_1.n s0_1.c, .int .i64 n1_2] w (fun e w1 => ∃ (r0 : Sl), e = .returned (.slice r0.a r0.n r0.c : Value) ∧ K r0 w1) := by
  unfold F93 at h
  refine y_enter (n := 27) (args := [.slice s0_1.a s0_1.n s0_1.c, .int .i64 n1_2]) Try.func93 rfl rfl rfl fun Q0 hQ0 => ?_
  refine y_seq fun K1 hK1 => ?_
  refine y_region ?_
  refine y_k (.slice none 0 0 : Value) w rfl rfl rfl (by kernel_rfl) ?_
  refine y_nil ?_
  refine y_then (hK1 _ _ ?_)
  refine y_seq fun K2 hK2 => ?_
  refine y_seq fun K3 hK3 => ?_
  refine y_region ?_
  refine y_k (.int .i64 n1_2 : Value) w rfl rfl rfl (by kernel_rfl) ?_
  refine y_k (.bool (decide (n1_2 < 0)) : Value) w rfl rfl rfl (by kernel_rfl) ?_
  refine y_nil ?_
  refine y_then (hK3 _ _ ?_)
  refine y_cond (decide (n1_2 < 0)) rfl rfl (fun hb12 => ?_) (fun hb12 => ?_)
  · replace h := h.1 (of_decide_eq_true hb12)
    exact h.elim
  · replace h := h.2 (of_decide_eq_false hb12)
    refine y_skip ?_
    refine y_then (hK2 _ _ ?_)
    refine y_seq fun K4 hK4 => ?_
    have hjK4 : ∀ (f : Fr) (s0_7 : Sl) (w_8 : World), f 0 = (.slice s0_7.a s0_7.n s0_7.c : Value) → F93_j1 K s0_7 w_8 → WK K4 27 f w_8 := by
      intro f s0_7 w_8 e0 h
      refine y_atf (upd_id rfl e0) ?_
      clear e0
      unfold F93_j1 at h
      refine hK4 _ _ ?_
      refine y_seq fun K10 hK10 => ?_
      refine y_region ?_
      refine y_k (.slice s0_7.a s0_7.n s0_7.c : Value) w_8 rfl rfl rfl (by kernel_rfl) ?_
      refine y_k (.slice s0_7.a s0_7.n s0_7.c : Value) w_8 rfl rfl rfl (by kernel_rfl) ?_
      refine y_nil ?_
      refine y_then (hK10 _ _ ?_)
      refine y_ret ?_
      repeat (first | refine e_then_r ?_ | refine e_block_r ?_)
      exact (hQ0 _ _ _ (res1 (v := (.slice s0_7.a s0_7.n s0_7.c : Value)) rfl rfl rfl) ⟨_, rfl, h⟩).1
    refine y_seq fun K5 hK5 => ?_
    refine y_region ?_
    refine y_k (.int .i64 n1_2 : Value) w rfl rfl rfl (by kernel_rfl) ?_
    refine y_k (.slice s0_1.a s0_1.n s0_1.c : Value) w rfl rfl rfl (by kernel_rfl) ?_
    refine y_k (.int .i64 ((s0_1.c : Int)) : Value) w rfl rfl rfl (by kernel_rfl) ?_
    refine y_k (.slice s0_1.a s0_1.n s0_1.c : Value) w rfl rfl rfl (by kernel_rfl) ?_
    refine y_k (.int .i64 ((s0_1.n : Int)) : Value) w rfl rfl rfl (by kernel_rfl) ?_
    refine y_k (.int .i64 (IntKind.i64.wrap (((s0_1.c : Int)) - ((s0_1.n : Int)))) : Value) w rfl rfl rfl (by kernel_rfl) ?_
    refine y_k (.int .i64 (IntKind.i64.wrap (n1_2 - (IntKind.i64.wrap (((s0_1.c : Int)) - ((s0_1.n : Int)))))) : Value) w rfl rfl rfl (by kernel_rfl) ?_
    refine y_k (.int .i64 (IntKind.i64.wrap (n1_2 - (IntKind.i64.wrap (((s0_1.c : Int)) - ((s0_1.n : Int)))))) : Value) w rfl rfl rfl (by kernel_rfl) ?_
    refine y_nil ?_
    refine y_then (hK5 _ _ ?_)
    refine y_seq fun K6 hK6 => ?_
    refine y_region ?_
    refine y_k (.int .i64 (IntKind.i64.wrap (n1_2 - (IntKind.i64.wrap (((s0_1.c : Int)) - ((s0_1.n : Int)))))) : Value) w rfl rfl rfl (by kernel_rfl) ?_
    refine y_k (.bool (decide ((IntKind.i64.wrap (n1_2 - (IntKind.i64.wrap (((s0_1.c : Int)) - ((s0_1.n : Int)))))) > 0)) : Value) w rfl rfl rfl (by kernel_rfl) ?_
    refine y_nil ?_
    refine y_then (hK6 _ _ ?_)
    refine y_cond (decide ((IntKind.i64.wrap (n1_2 - (IntKind.i64.wrap (((s0_1.c : Int)) - ((s0_1.n : Int)))))) > 0)) rfl rfl (fun hb11 => ?_) (fun hb11 => ?_)
    · replace h := h.1 (of_decide_eq_true hb11)
      refine y_region ?_
      refine y_k (.slice s0_1.a s0_1.n s0_1.c : Value) w rfl rfl rfl (by kernel_rfl) ?_
      refine y_k (.slice s0_1.a s0_1.n s0_1.c : Value) w rfl rfl rfl (by kernel_rfl) ?_
      refine y_k (.int .i64 ((s0_1.c : Int)) : Value) w rfl rfl rfl (by kernel_rfl) ?_
      obtain ⟨t20_3, hx7, h⟩ := h
      refine y_v (s := Instr.sliceAt 22 (.slice s0_1.a s0_1.n s0_1.c : Value) none (some (.int .i64 ((s0_1.c : Int)) : Value)) none) rfl rfl rfl (by kernel_rfl) (hx7) ?_
      refine y_k (.int .i64 (IntKind.i64.wrap (n1_2 - (IntKind.i64.wrap (((s0_1.c : Int)) - ((s0_1.n : Int)))))) : Value) w rfl rfl rfl (by kernel_rfl) ?_
      obtain ⟨t22_4, w_5, hx8, h⟩ := h
      refine y_v (s := Builtin.append_ #[22, 3] 22 #[.slice t20_3.a t20_3.n t20_3.c, .int .i64 (IntKind.i64.wrap (n1_2 - (IntKind.i64.wrap (((s0_1.c : Int)) - ((s0_1.n : Int))))))]) rfl rfl rfl (by kernel_rfl) hx8 ?_
      refine y_k (.slice s0_1.a s0_1.n s0_1.c : Value) w_5 rfl rfl rfl (by kernel_rfl) ?_
      refine y_k (.int .i64 ((s0_1.n : Int)) : Value) w_5 rfl rfl rfl (by kernel_rfl) ?_
      obtain ⟨t25_6, hx9, h⟩ := h
      refine y_v (s := Instr.sliceAt 22 (.slice t22_4.a t22_4.n t22_4.c : Value) none (some (.int .i64 ((s0_1.n : Int)) : Value)) none) rfl rfl rfl (by kernel_rfl) (hx9) ?_
      refine y_k (.slice t25_6.a t25_6.n t25_6.c : Value) w_5 rfl rfl rfl (by kernel_rfl) ?_
      refine y_nil ?_
      exact y_then (hjK4 _ t25_6 w_5 rfl h)
    · replace h := h.2 (of_decide_eq_false hb11)
      refine y_skip ?_
      exact y_then (hjK4 _ s0_1 w rfl h)

def F66_l2 (slices0_1 : Sl) (K : Sl → World → Prop) (next22 : (Sl × Int) → World → Prop) : (Sl × Int) → World → Prop := fun (newslice6_9, t27_10) w_11 =>
  ((t27_10 < ((slices0_1.n : Int)) →
  (0 : Int) ≤ t27_10 ∧ t27_10 < (slices0_1.n : Int) ∧ ∃ (a_12 : Addr), slices0_1.a = some a_12 ∧
  ∃ (t30_13 : Sl), w_11.cell? (a_12.add (Int.toNat t27_10)) = some (.slice t30_13.a t30_13.n t30_13.c) ∧
  ∃ (t33_14 : Sl), ∃ (w_15 : World), (Builtin.append_ #[22, 22] 22 #[.slice newslice6_9.a newslice6_9.n newslice6_9.c, .slice t30_13.a t30_13.n t30_13.c]).run Try.prog w_11 = .ok (.slice t33_14.a t33_14.n t33_14.c : Value) w_15 ∧
  next22 (t33_14, IntKind.i64.wrap (t27_10 + 1)) w_15) ∧
  (¬ (t27_10 < ((slices0_1.n : Int))) →
  K newslice6_9 w_11))
def F66_l1 (slices0_1 : Sl) (K : Sl → World → Prop) (next6 : (Int × Int) → World → Prop) : (Int × Int) → World → Prop := fun (size3_2, t11_3) w_4 =>
  ((t11_3 < ((slices0_1.n : Int)) →
  (0 : Int) ≤ t11_3 ∧ t11_3 < (slices0_1.n : Int) ∧ ∃ (a_5 : Addr), slices0_1.a = some a_5 ∧
  ∃ (t14_6 : Sl), w_4.cell? (a_5.add (Int.toNat t11_3)) = some (.slice t14_6.a t14_6.n t14_6.c) ∧
  (((IntKind.i64.wrap (size3_2 + ((t14_6.n : Int)))) < 0 →
  False) ∧
  (¬ ((IntKind.i64.wrap (size3_2 + ((t14_6.n : Int)))) < 0) →
  next6 (IntKind.i64.wrap (size3_2 + ((t14_6.n : Int))), IntKind.i64.wrap (t11_3 + 1)) w_4))) ∧
  (¬ (t11_3 < ((slices0_1.n : Int))) →
  Calls Try.prog 93 #[.slice none 0 0, .int .i64 size3_2] w_4 fun e w_8 => ∃ (t24_7 : Sl), e = .returned (.slice t24_7.a t24_7.n t24_7.c : Value) ∧
  kLoop (F66_l2 slices0_1 K) (t24_7, 0) w_8))
/-- slices.Concat[[]uint32,uint32] -/
def F66 (slices0_1 : Sl) (K : Sl → World → Prop) (w : World) : Prop :=
  kLoop (F66_l1 slices0_1 K) (0, 0) w
set_option maxHeartbeats 4000000 in
set_option maxRecDepth 20000 in
theorem F66_sound (slices0_1 : Sl) (K : Sl → World → Prop) (w : World) (h : F66 slices0_1 K w) :
    Calls Try.prog 66 #[.slice slices0_1.a slices0_1.n slices0_1.c] w (fun e w1 => ∃ (r0 : Sl), e = .returned (.slice r0.a r0.n r0.c : Value) ∧ K r0 w1) := by
  unfold F66 at h
  refine y_enter (n := 36) (args := [.slice slices0_1.a slices0_1.n slices0_1.c]) Try.func66 rfl rfl rfl fun Q0 hQ0 => ?_
  refine y_seq fun K1 hK1 => ?_
  refine y_region ?_
  refine y_k (.slice none 0 0 : Value) w rfl rfl rfl (by kernel_rfl) ?_
  refine y_nil ?_
  refine y_then (hK1 _ _ ?_)
  refine y_seq fun K2 hK2 => ?_
  refine y_region ?_
  refine y_k (.int .i64 0 : Value) w rfl rfl rfl (by kernel_rfl) ?_
  refine y_nil ?_
  refine y_then (hK2 _ _ ?_)
  refine y_seq fun K3 hK3 => ?_
  refine y_seq fun K4 hK4 => ?_
  refine y_region ?_
  refine y_k (.slice slices0_1.a slices0_1.n slices0_1.c : Value) w rfl rfl rfl (by kernel_rfl) ?_
  refine y_k (.int .i64 ((slices0_1.n : Int)) : Value) w rfl rfl rfl (by kernel_rfl) ?_
  refine y_k (.int .i64 0 : Value) w rfl rfl rfl (by kernel_rfl) ?_
  refine y_nil ?_
  refine y_then (hK4 _ _ ?_)
  refine y_block ?_
  refine y_loop (S := Int × Int) (fun s j => match s with | (size3_2, t11_3) => upd (upd (upd (upd (upd (j) 0 (.slice slices0_1.a slices0_1.n slices0_1.c : Value)) 3 (.int .i64 size3_2 : Value)) 9 (.slice slices0_1.a slices0_1.n slices0_1.c : Value)) 10 (.int .i64 ((slices0_1.n : Int)) : Value)) 11 (.int .i64 t11_3 : Value)) (0, 0) ?_ h ?_
  · dsimp only
    refine upd_id ?_ rfl
    refine upd_id ?_ rfl
    refine upd_id ?_ rfl
    refine upd_id ?_ rfl
    refine upd_id ?_ rfl
    rfl
  rintro KN7 next6 hN7 ⟨size3_2, t11_3⟩ j w_4 h
  unfold F66_l1 at h
  refine y_seq fun K8 hK8 => ?_
  refine y_region ?_
  refine y_k (.bool (decide (t11_3 < ((slices0_1.n : Int)))) : Value) w_4 rfl rfl rfl (by kernel_rfl) ?_
  refine y_nil ?_
  refine y_then (hK8 _ _ ?_)
  refine y_seq fun K9 hK9 => ?_
  refine y_cond (decide (t11_3 < ((slices0_1.n : Int)))) rfl rfl (fun hb34 => ?_) (fun hb34 => ?_)
  · replace h := h.1 (of_decide_eq_true hb34)
    refine y_skip ?_
    refine y_then (hK9 _ _ ?_)
    refine y_seq fun K10 hK10 => ?_
    refine y_block ?_
    refine y_seq fun K12 hK12 => ?_
    refine y_region ?_
    obtain ⟨hx13a, hx13b, a_5, hx13, h⟩ := h
    refine y_v (v := (.pointer (some (a_5.add (Int.toNat t11_3))) : Value)) (s := Instr.indexAt 40 (.slice slices0_1.a slices0_1.n slices0_1.c : Value) (.int .i64 t11_3 : Value)) rfl rfl rfl (by kernel_rfl) (run_ixs1 (el := 22) (by kernel_rfl) (by kernel_rfl) hx13 hx13a hx13b) ?_
    obtain ⟨t14_6, hx14, h⟩ := h
    refine y_v (s := Instr.loadAt 22 (.pointer (some (a_5.add (Int.toNat t11_3))))) rfl rfl rfl (by kernel_rfl) (rn_load (by kernel_rfl) hx14) ?_
    refine y_k (.slice t14_6.a t14_6.n t14_6.c : Value) w_4 rfl rfl rfl (by kernel_rfl) ?_
    refine y_nil ?_
    refine y_then (hK12 _ _ ?_)
    refine y_seq fun K15 hK15 => ?_
    refine y_region ?_
    refine y_k (.int .i64 size3_2 : Value) w_4 rfl rfl rfl (by kernel_rfl) ?_
    refine y_k (.slice t14_6.a t14_6.n t14_6.c : Value) w_4 rfl rfl rfl (by kernel_rfl) ?_
    refine y_k (.int .i64 ((t14_6.n : Int)) : Value) w_4 rfl rfl rfl (by kernel_rfl) ?_
    refine y_k (.int .i64 (IntKind.i64.wrap (size3_2 + ((t14_6.n : Int)))) : Value) w_4 rfl rfl rfl (by kernel_rfl) ?_
    refine y_k (.int .i64 (IntKind.i64.wrap (size3_2 + ((t14_6.n : Int)))) : Value) w_4 rfl rfl rfl (by kernel_rfl) ?_
    refine y_nil ?_
    refine y_then (hK15 _ _ ?_)
    refine y_seq fun K16 hK16 => ?_
    refine y_region ?_
    refine y_k (.int .i64 (IntKind.i64.wrap (size3_2 + ((t14_6.n : Int)))) : Value) w_4 rfl rfl rfl (by kernel_rfl) ?_
    refine y_k (.bool (decide ((IntKind.i64.wrap (size3_2 + ((t14_6.n : Int)))) < 0)) : Value) w_4 rfl rfl rfl (by kernel_rfl) ?_
    refine y_nil ?_
    refine y_then (hK16 _ _ ?_)
    refine y_cond (decide ((IntKind.i64.wrap (size3_2 + ((t14_6.n : Int)))) < 0)) rfl rfl (fun hb17 => ?_) (fun hb17 => ?_)
    · replace h := h.1 (of_decide_eq_true hb17)
      exact h.elim
    · replace h := h.2 (of_decide_eq_false hb17)
      refine y_skip ?_
      refine e_block_n ?_
      refine y_then (hK10 _ _ ?_)
      refine y_region ?_
      refine y_k (.int .i64 (IntKind.i64.wrap (t11_3 + 1)) : Value) w_4 rfl rfl rfl (by kernel_rfl) ?_
      refine y_k (.int .i64 (IntKind.i64.wrap (t11_3 + 1)) : Value) w_4 rfl rfl rfl (by kernel_rfl) ?_
      refine y_nil ?_
      refine y_then (hN7 (IntKind.i64.wrap (size3_2 + ((t14_6.n : Int))), IntKind.i64.wrap (t11_3 + 1)) _ _ h ?_)
      dsimp only
      refine upd_id ?_ rfl
      refine upd_id ?_ rfl
      refine upd_id ?_ rfl
      refine upd_id ?_ rfl
      refine upd_id ?_ rfl
      rfl
  · replace h := h.2 (of_decide_eq_false hb34)
    refine y_exit ?_
    repeat (first | refine e_then_x ?_ | refine e_block_y rfl ?_)
    refine e_block_x ?_
    refine y_then (hK3 _ _ ?_)
    refine y_seq fun K18 hK18 => ?_
    refine y_region ?_
    refine y_k (.int .i64 size3_2 : Value) w_4 rfl rfl rfl (by kernel_rfl) ?_
    refine y_call rfl rfl rfl (by kernel_rfl) (h.mono ?_)
    rintro _ w_8 ⟨t24_7, rfl, h⟩
    refine ⟨_, rfl, ?_⟩
    refine y_k (.slice t24_7.a t24_7.n t24_7.c : Value) w_8 rfl rfl rfl (by kernel_rfl) ?_
    refine y_nil ?_
    refine y_then (hK18 _ _ ?_)
    refine y_seq fun K19 hK19 => ?_
    refine y_seq fun K20 hK20 => ?_
    refine y_region ?_
    refine y_k (.slice slices0_1.a slices0_1.n slices0_1.c : Value) w_8 rfl rfl rfl (by kernel_rfl) ?_
    refine y_k (.int .i64 ((slices0_1.n : Int)) : Value) w_8 rfl rfl rfl (by kernel_rfl) ?_
    refine y_k (.int .i64 0 : Value) w_8 rfl rfl rfl (by kernel_rfl) ?_
    refine y_nil ?_
    refine y_then (hK20 _ _ ?_)
    refine y_block ?_
    refine y_loop (S := Sl × Int) (fun s j => match s with | (newslice6_9, t27_10) => upd (upd (upd (upd (j) 6 (.slice newslice6_9.a newslice6_9.n newslice6_9.c : Value)) 25 (.slice slices0_1.a slices0_1.n slices0_1.c : Value)) 26 (.int .i64 ((slices0_1.n : Int)) : Value)) 27 (.int .i64 t27_10 : Value)) (t24_7, 0) ?_ h ?_
    · dsimp only
      refine upd_id ?_ rfl
      refine upd_id ?_ rfl
      refine upd_id ?_ rfl
      refine upd_id ?_ rfl
      rfl
    rintro KN23 next22 hN23 ⟨newslice6_9, t27_10⟩ j w_11 h
    unfold F66_l2 at h
    refine y_seq fun K24 hK24 => ?_
    refine y_region ?_
    refine y_k (.bool (decide (t27_10 < ((slices0_1.n : Int)))) : Value) w_11 rfl rfl rfl (by kernel_rfl) ?_
    refine y_nil ?_
    refine y_then (hK24 _ _ ?_)
    refine y_seq fun K25 hK25 => ?_
    refine y_cond (decide (t27_10 < ((slices0_1.n : Int)))) rfl rfl (fun hb33 => ?_) (fun hb33 => ?_)
    · replace h := h.1 (of_decide_eq_true hb33)
      refine y_skip ?_
      refine y_then (hK25 _ _ ?_)
      refine y_seq fun K26 hK26 => ?_
      refine y_block ?_
      refine y_seq fun K28 hK28 => ?_
      refine y_region ?_
      obtain ⟨hx29a, hx29b, a_12, hx29, h⟩ := h
      refine y_v (v := (.pointer (some (a_12.add (Int.toNat t27_10))) : Value)) (s := Instr.indexAt 40 (.slice slices0_1.a slices0_1.n slices0_1.c : Value) (.int .i64 t27_10 : Value)) rfl rfl rfl (by kernel_rfl) (run_ixs1 (el := 22) (by kernel_rfl) (by kernel_rfl) hx29 hx29a hx29b) ?_
      obtain ⟨t30_13, hx30, h⟩ := h
      refine y_v (s := Instr.loadAt 22 (.pointer (some (a_12.add (Int.toNat t27_10))))) rfl rfl rfl (by kernel_rfl) (rn_load (by kernel_rfl) hx30) ?_
      refine y_k (.slice t30_13.a t30_13.n t30_13.c : Value) w_11 rfl rfl rfl (by kernel_rfl) ?_
      refine y_nil ?_
      refine y_then (hK28 _ _ ?_)
      refine y_region ?_
      refine y_k (.slice newslice6_9.a newslice6_9.n newslice6_9.c : Value) w_11 rfl rfl rfl (by kernel_rfl) ?_
      refine y_k (.slice t30_13.a t30_13.n t30_13.c : Value) w_11 rfl rfl rfl (by kernel_rfl) ?_
      obtain ⟨t33_14, w_15, hx31, h⟩ := h
      refine y_v (s := Builtin.append_ #[22, 22] 22 #[.slice newslice6_9.a newslice6_9.n newslice6_9.c, .slice t30_13.a t30_13.n t30_13.c]) rfl rfl rfl (by kernel_rfl) hx31 ?_
      refine y_k (.slice t33_14.a t33_14.n t33_14.c : Value) w_15 rfl rfl rfl (by kernel_rfl) ?_
      refine y_nil ?_
      refine e_block_n ?_
      refine y_then (hK26 _ _ ?_)
      refine y_region ?_
      refine y_k (.int .i64 (IntKind.i64.wrap (t27_10 + 1)) : Value) w_15 rfl rfl rfl (by kernel_rfl) ?_
      refine y_k (.int .i64 (IntKind.i64.wrap (t27_10 + 1)) : Value) w_15 rfl rfl rfl (by kernel_rfl) ?_
      refine y_nil ?_
      refine y_then (hN23 (t33_14, IntKind.i64.wrap (t27_10 + 1)) _ _ h ?_)
      dsimp only
      refine upd_id ?_ rfl
      refine upd_id ?_ rfl
      refine upd_id ?_ rfl
      refine upd_id ?_ rfl
      rfl
    · replace h := h.2 (of_decide_eq_false hb33)
      refine y_exit ?_
      repeat (first | refine e_then_x ?_ | refine e_block_y rfl ?_)
      refine e_block_x ?_
      refine y_then (hK19 _ _ ?_)
      refine y_seq fun K32 hK32 => ?_
      refine y_region ?_
      refine y_k (.slice newslice6_9.a newslice6_9.n newslice6_9.c : Value) w_11 rfl rfl rfl (by kernel_rfl) ?_
      refine y_k (.slice newslice6_9.a newslice6_9.n newslice6_9.c : Value) w_11 rfl rfl rfl (by kernel_rfl) ?_
      refine y_nil ?_
      refine y_then (hK32 _ _ ?_)
      refine y_ret ?_
      repeat (first | refine e_then_r ?_ | refine e_block_r ?_)
      exact (hQ0 _ _ _ (res1 (v := (.slice newslice6_9.a newslice6_9.n newslice6_9.c : Value)) rfl rfl rfl) ⟨_, rfl, h⟩).1

def F27_j1 (K : Bool → World → Prop) (t4_8 : Bool) (w_9 : World) : Prop :=
  K t4_8 w_9
/-- turnkey/post.Has -/
def F27 (l0_1 : Sl) (n1_2 : Int) (K : Bool → World → Prop) (w : World) : Prop :=
  Calls Try.prog 64 #[.slice l0_1.a l0_1.n l0_1.c, .int .u32 n1_2] w fun e w_5 => ∃ (t10_3 : Int), ∃ (t10_4 : Bool), e = .returned (.tuple #[.int .i64 t10_3, .bool t10_4] : Value) ∧
  ((t10_4 = true →
  Calls Try.prog 63 #[.slice l0_1.a l0_1.n l0_1.c] w_5 fun e w_7 => ∃ (t16_6 : Bool), e = .returned (.bool t16_6 : Value) ∧
  F27_j1 K t16_6 w_7) ∧
  (t10_4 = false →
  F27_j1 K false w_5))
set_option maxHeartbeats 4000000 in
set_option maxRecDepth 20000 in
theorem F27_sound (l0_1 : Sl) (n1_2 : Int) (K : Bool → World → Prop) (w : World) (h : F27 l0_1 n1_2 K w) :
    Calls Try.prog 27 #[.slice l0_1.a l0_1.n l0_1.c, .int .u32 n1_2] w (fun e w1 => ∃ (r0 : Bool), e = .returned (.bool r0 : Value) ∧ K r0 w1) := by
  unfold F27 at h
  refine y_enter (n := 18) (args := [.slice l0_1.a l0_1.n l0_1.c, .int .u32 n1_2]) Try.func27 rfl rfl rfl fun Q0 hQ0 => ?_
  refine y_seq fun K1 hK1 => ?_
  refine y_region ?_
  refine y_k (.bool false : Value) w rfl rfl rfl (by kernel_rfl) ?_
  refine y_nil ?_
  refine y_then (hK1 _ _ ?_)
  refine y_seq fun K2 hK2 => ?_
  refine y_region ?_
  refine y_k (.slice l0_1.a l0_1.n l0_1.c : Value) w rfl rfl rfl (by kernel_rfl) ?_
  refine y_k (.int .u32 n1_2 : Value) w rfl rfl rfl (by kernel_rfl) ?_
  refine y_call rfl rfl rfl (by kernel_rfl) (h.mono ?_)
  rintro _ w_5 ⟨t10_3, t10_4, rfl, h⟩
  refine ⟨_, rfl, ?_⟩
  refine y_k (.tuple #[.int .i64 t10_3, .bool t10_4] : Value) w_5 rfl rfl rfl (by kernel_rfl) ?_
  refine y_k (.int .i64 t10_3 : Value) w_5 rfl rfl rfl (by kernel_rfl) ?_
  refine y_k (.bool t10_4 : Value) w_5 rfl rfl rfl (by kernel_rfl) ?_
  refine y_k (.int .i64 t10_3 : Value) w_5 rfl rfl rfl (by kernel_rfl) ?_
  refine y_k (.bool t10_4 : Value) w_5 rfl rfl rfl (by kernel_rfl) ?_
  refine y_nil ?_
  refine y_then (hK2 _ _ ?_)
  refine y_seq fun K3 hK3 => ?_
  have hjK3 : ∀ (f : Fr) (t4_8 : Bool) (w_9 : World), f 4 = (.bool t4_8 : Value) → F27_j1 K t4_8 w_9 → WK K3 18 f w_9 := by
    intro f t4_8 w_9 e4 h
    refine y_atf (upd_id rfl e4) ?_
    clear e4
    unfold F27_j1 at h
    refine hK3 _ _ ?_
    refine y_ret ?_
    repeat (first | refine e_then_r ?_ | refine e_block_r ?_)
    exact (hQ0 _ _ _ (res1 (v := (.bool t4_8 : Value)) rfl rfl rfl) ⟨_, rfl, h⟩).1
  refine y_region ?_
  refine y_k (.bool t10_4 : Value) w_5 rfl rfl rfl (by kernel_rfl) ?_
  refine y_k (.bool t10_4 : Value) w_5 rfl rfl rfl (by kernel_rfl) ?_
  refine y_fork (t10_4) (fun hb4 => ?_) (fun hb4 => ?_)
  · replace h := h.1 (hb4)
    refine y_frame (upd_id (i := 14) (v := .bool true) rfl (congrArg Value.bool hb4)) ?_
    refine y_gyes rfl rfl rfl ?_
    refine y_k (.slice l0_1.a l0_1.n l0_1.c : Value) w_5 rfl rfl rfl (by kernel_rfl) ?_
    refine y_gyes rfl rfl rfl ?_
    refine y_call rfl rfl rfl (by kernel_rfl) (h.mono ?_)
    rintro _ w_7 ⟨t16_6, rfl, h⟩
    refine ⟨_, rfl, ?_⟩
    refine y_k (.bool t16_6 : Value) w_7 rfl rfl rfl (by kernel_rfl) ?_
    refine y_k (.bool t16_6 : Value) w_7 rfl rfl rfl (by kernel_rfl) ?_
    refine y_nil ?_
    exact y_then (hjK3 _ t16_6 w_7 rfl h)
  · replace h := h.2 (hb4)
    refine y_frame (upd_id (i := 14) (v := .bool false) rfl (congrArg Value.bool hb4)) ?_
    refine y_gno rfl rfl rfl rfl ?_
    refine y_gno rfl rfl rfl rfl ?_
    refine y_k (.bool false : Value) w_5 rfl rfl rfl (by kernel_rfl) ?_
    refine y_k (.bool false : Value) w_5 rfl rfl rfl (by kernel_rfl) ?_
    refine y_nil ?_
    exact y_then (hjK3 _ false w_5 rfl h)

/-- turnkey/post.Add -/
def F19 (l0_1 : Sl) (n1_2 : Int) (K : Sl → Bool → World → Prop) (w : World) : Prop :=
  Calls Try.prog 63 #[.slice l0_1.a l0_1.n l0_1.c] w fun e w_4 => ∃ (t9_3 : Bool), e = .returned (.bool t9_3 : Value) ∧
  ((t9_3 = false →
  K (⟨none, 0, 0⟩) false w_4) ∧
  (t9_3 = true →
  Calls Try.prog 64 #[.slice l0_1.a l0_1.n l0_1.c, .int .u32 n1_2] w_4 fun e w_7 => ∃ (t14_5 : Int), ∃ (t14_6 : Bool), e = .returned (.tuple #[.int .i64 t14_5, .bool t14_6] : Value) ∧
  ((t14_6 = true →
  Calls Try.prog 65 #[.slice l0_1.a l0_1.n l0_1.c] w_7 fun e w_9 => ∃ (t19_8 : Sl), e = .returned (.slice t19_8.a t19_8.n t19_8.c : Value) ∧
  K t19_8 false w_9) ∧
  (t14_6 = false →
  ∀ (w_10 : World), w_10 = w_7.drew →
  ∃ (t22_11 : Sl), (Instr.sliceAt 22 (.slice l0_1.a l0_1.n l0_1.c : Value) none (some (.int .i64 t14_5 : Value)) none).run Try.prog w_10 = .ok (.slice t22_11.a t22_11.n t22_11.c : Value) w_10 ∧
  ∃ (t27_12 : Sl), (Instr.sliceAt 22 (.slice l0_1.a l0_1.n l0_1.c : Value) (some (.int .i64 t14_5 : Value)) none none).run Try.prog w_10 = .ok (.slice t27_12.a t27_12.n t27_12.c : Value) w_10 ∧
  ∀ (w_13 : World), w_13 = w_10.alloc (.cells #[.int .u32 n1_2] 23) → (Instr.sliceAt 22 (.slice l0_1.a l0_1.n l0_1.c : Value) (some (.int .i64 t14_5 : Value)) none none).run Try.prog w_13 = .ok (.slice t27_12.a t27_12.n t27_12.c : Value) w_13 ∧ (Instr.sliceAt 22 (.slice l0_1.a l0_1.n l0_1.c : Value) none (some (.int .i64 t14_5 : Value)) none).run Try.prog w_13 = .ok (.slice t22_11.a t22_11.n t22_11.c : Value) w_13 ∧ 
  ∀ (w_14 : World), w_14 = w_13.alloc (.cells #[.slice t22_11.a t22_11.n t22_11.c, .slice (some ⟨w_10.heap.size, 0, none⟩) 1 1, .slice t27_12.a t27_12.n t27_12.c] 22) → 
  Calls Try.prog 66 #[.slice (some ⟨w_13.heap.size, 0, none⟩) 3 3] w_14 fun e w_16 => ∃ (t29_15 : Sl), e = .returned (.slice t29_15.a t29_15.n t29_15.c : Value) ∧ 
  K t29_15 true w_16))))
set_option maxHeartbeats 4000000 in
set_option maxRecDepth 20000 in
theorem F19_sound (l0_1 : Sl) (n1_2 : Int) (K : Sl → Bool → World → Prop) (w : World) (h : F19 l0_1 n1_2 K w) :
    Calls Try.prog 19 #[.slice l0_1.a l0_1.n l0_1.c, .int .u32 n1_2] w (fun e w1 => ∃ (r0 : Sl), ∃ (r1 : Bool), e = .returned (.tuple #[.slice r0.a r0.n r0.c, .bool r1]) ∧ K r0 r1 w1) := by
  unfold F19 at h
  refine y_enter (n := 30) (args := [.slice l0_1.a l0_1.n l0_1.c, .int .u32 n1_2]) Try.func19 rfl rfl rfl fun Q0 hQ0 => ?_
  refine y_seq fun K1 hK1 => ?_
  refine y_region ?_
  refine y_k (.slice none 0 0 : Value) w rfl rfl rfl (by kernel_rfl) ?_
  refine y_k (.bool false : Value) w rfl rfl rfl (by kernel_rfl) ?_
  refine y_nil ?_
  refine y_then (hK1 _ _ ?_)
  refine y_seq fun K2 hK2 => ?_
  refine y_seq fun K3 hK3 => ?_
  refine y_region ?_
  refine y_k (.slice l0_1.a l0_1.n l0_1.c : Value) w rfl rfl rfl (by kernel_rfl) ?_
  refine y_call rfl rfl rfl (by kernel_rfl) (h.mono ?_)
  rintro _ w_4 ⟨t9_3, rfl, h⟩
  refine ⟨_, rfl, ?_⟩
  refine y_k (.bool (!(t9_3)) : Value) w_4 rfl rfl rfl (by kernel_rfl) ?_
  refine y_nil ?_
  refine y_then (hK3 _ _ ?_)
  refine y_cond (!(t9_3)) rfl rfl (fun hb16 => ?_) (fun hb16 => ?_)
  · replace h := h.1 ((not_true_of hb16))
    refine y_seq fun K4 hK4 => ?_
    refine y_region ?_
    refine y_k (.slice none 0 0 : Value) w_4 rfl rfl rfl (by kernel_rfl) ?_
    refine y_k (.bool false : Value) w_4 rfl rfl rfl (by kernel_rfl) ?_
    refine y_nil ?_
    refine y_then (hK4 _ _ ?_)
    refine y_ret ?_
    repeat (first | refine e_then_r ?_ | refine e_block_r ?_)
    exact (hQ0 _ _ _ (res2 (v1 := (.slice none 0 0 : Value)) (v2 := (.bool false : Value)) rfl rfl rfl rfl) ⟨_, _, rfl, h⟩).1
  · replace h := h.2 ((not_false_of hb16))
    refine y_skip ?_
    refine y_then (hK2 _ _ ?_)
    refine y_seq fun K5 hK5 => ?_
    refine y_region ?_
    refine y_k (.slice l0_1.a l0_1.n l0_1.c : Value) w_4 rfl rfl rfl (by kernel_rfl) ?_
    refine y_k (.int .u32 n1_2 : Value) w_4 rfl rfl rfl (by kernel_rfl) ?_
    refine y_call rfl rfl rfl (by kernel_rfl) (h.mono ?_)
    rintro _ w_7 ⟨t14_5, t14_6, rfl, h⟩
    refine ⟨_, rfl, ?_⟩
    refine y_k (.tuple #[.int .i64 t14_5, .bool t14_6] : Value) w_7 rfl rfl rfl (by kernel_rfl) ?_
    refine y_k (.int .i64 t14_5 : Value) w_7 rfl rfl rfl (by kernel_rfl) ?_
    refine y_k (.bool t14_6 : Value) w_7 rfl rfl rfl (by kernel_rfl) ?_
    refine y_k (.int .i64 t14_5 : Value) w_7 rfl rfl rfl (by kernel_rfl) ?_
    refine y_k (.bool t14_6 : Value) w_7 rfl rfl rfl (by kernel_rfl) ?_
    refine y_nil ?_
    refine y_then (hK5 _ _ ?_)
    refine y_seq fun K6 hK6 => ?_
    refine y_seq fun K7 hK7 => ?_
    refine y_region ?_
    refine y_k (.bool t14_6 : Value) w_7 rfl rfl rfl (by kernel_rfl) ?_
    refine y_nil ?_
    refine y_then (hK7 _ _ ?_)
    refine y_cond (t14_6) rfl rfl (fun hb15 => ?_) (fun hb15 => ?_)
    · replace h := h.1 (hb15)
      refine y_seq fun K8 hK8 => ?_
      refine y_region ?_
      refine y_k (.slice l0_1.a l0_1.n l0_1.c : Value) w_7 rfl rfl rfl (by kernel_rfl) ?_
      refine y_call rfl rfl rfl (by kernel_rfl) (h.mono ?_)
      rintro _ w_9 ⟨t19_8, rfl, h⟩
      refine ⟨_, rfl, ?_⟩
      refine y_k (.slice t19_8.a t19_8.n t19_8.c : Value) w_9 rfl rfl rfl (by kernel_rfl) ?_
      refine y_k (.bool false : Value) w_9 rfl rfl rfl (by kernel_rfl) ?_
      refine y_nil ?_
      refine y_then (hK8 _ _ ?_)
      refine y_ret ?_
      repeat (first | refine e_then_r ?_ | refine e_block_r ?_)
      exact (hQ0 _ _ _ (res2 (v1 := (.slice t19_8.a t19_8.n t19_8.c : Value)) (v2 := (.bool false : Value)) rfl rfl rfl rfl) ⟨_, _, rfl, h⟩).1
    · replace h := h.2 (hb15)
      refine y_skip ?_
      refine y_then (hK6 _ _ ?_)
      refine y_seq fun K9 hK9 => ?_
      obtain ⟨w_10, hwd10⟩ : ∃ wd : World, wd = w_7.drew := ⟨_, rfl⟩
      replace h := h _ hwd10
      refine t_region (wd := w_10) [] (by kernel_rfl) hwd10 SF_nil fun Q10 hE10 hp10 hS => ?_
      clear hwd10
      refine t_kw hp10 hS 0 (.slice l0_1.a l0_1.n l0_1.c : Value) rfl (wanted_none rfl) rfl rfl (by kernel_rfl) (fun _ _ => by kernel_rfl) fun hS => ?_
      refine t_kw hp10 hS 1 (.int .i64 t14_5 : Value) rfl (wanted_none rfl) rfl rfl (by kernel_rfl) (fun _ _ => by kernel_rfl) fun hS => ?_
      obtain ⟨t22_11, hx11, h⟩ := h
      refine t_add ⟨2, [8, 9], fun wx => (Instr.sliceAt 22 (.slice l0_1.a l0_1.n l0_1.c : Value) none (some (.int .i64 t14_5 : Value)) none).run Try.prog wx = .ok (.slice t22_11.a t22_11.n t22_11.c : Value) wx⟩ ?_
      replace hS := SF_on (x := ⟨2, [8, 9], fun wx => (Instr.sliceAt 22 (.slice l0_1.a l0_1.n l0_1.c : Value) none (some (.int .i64 t14_5 : Value)) none).run Try.prog wx = .ok (.slice t22_11.a t22_11.n t22_11.c : Value) wx⟩) hx11 hS
      refine t_v (s := Instr.sliceAt 22 (.slice l0_1.a l0_1.n l0_1.c : Value) none (some (.int .i64 t14_5 : Value)) none) hp10 hS 2 (.slice t22_11.a t22_11.n t22_11.c : Value) rfl (wanted_none rfl) rfl rfl (by kernel_rfl) (by kernel_rfl) (fun _ hw => (Sw.fact (List.Mem.head _) rfl hw)) fun hS => ?_
      refine t_kw hp10 hS 3 (.int .u32 n1_2 : Value) rfl (wanted_none rfl) rfl rfl (by kernel_rfl) (fun _ _ => by kernel_rfl) fun hS => ?_
      refine t_kw hp10 hS 5 (.slice l0_1.a l0_1.n l0_1.c : Value) rfl (wanted_none rfl) rfl rfl (by kernel_rfl) (fun _ _ => by kernel_rfl) fun hS => ?_
      refine t_kw hp10 hS 6 (.int .i64 t14_5 : Value) rfl (wanted_none rfl) rfl rfl (by kernel_rfl) (fun _ _ => by kernel_rfl) fun hS => ?_
      obtain ⟨t27_12, hx12, h⟩ := h
      refine t_add ⟨7, [8, 9], fun wx => (Instr.sliceAt 22 (.slice l0_1.a l0_1.n l0_1.c : Value) (some (.int .i64 t14_5 : Value)) none none).run Try.prog wx = .ok (.slice t27_12.a t27_12.n t27_12.c : Value) wx⟩ ?_
      replace hS := SF_on (x := ⟨7, [8, 9], fun wx => (Instr.sliceAt 22 (.slice l0_1.a l0_1.n l0_1.c : Value) (some (.int .i64 t14_5 : Value)) none none).run Try.prog wx = .ok (.slice t27_12.a t27_12.n t27_12.c : Value) wx⟩) hx12 hS
      refine t_v (s := Instr.sliceAt 22 (.slice l0_1.a l0_1.n l0_1.c : Value) (some (.int .i64 t14_5 : Value)) none none) hp10 hS 7 (.slice t27_12.a t27_12.n t27_12.c : Value) rfl (wanted_none rfl) rfl rfl (by kernel_rfl) (by kernel_rfl) (fun _ hw => (Sw.fact (List.Mem.head _) rfl hw)) fun hS => ?_
      replace h := h _ rfl
      obtain ⟨hx13, h⟩ := h
      obtain ⟨hx14, h⟩ := h
      refine t_kstep 4 (.slice (some ⟨w_10.heap.size, 0, none⟩) 1 1 : Value) (w_10.alloc (.cells #[.int .u32 n1_2] 23)) (by kernel_rfl) rfl (wanted_none rfl) rfl rfl (by kernel_rfl) (SF_on hx13 (SF_on hx14 SF_nil)) fun hS => ?_
      generalize w_10.alloc (.cells #[.int .u32 n1_2] 23) = w_13 at hx13 hx14 hS h ⊢
      replace h := h _ rfl
      refine t_kstep 8 (.slice (some ⟨w_13.heap.size, 0, none⟩) 3 3 : Value) (w_13.alloc (.cells #[.slice t22_11.a t22_11.n t22_11.c, .slice (some ⟨w_10.heap.size, 0, none⟩) 1 1, .slice t27_12.a t27_12.n t27_12.c] 22)) (by kernel_rfl) rfl (wanted_none rfl) rfl rfl (by kernel_rfl) (SF_off (by kernel_rfl) (by kernel_rfl) (SF_off (by kernel_rfl) (by kernel_rfl) SF_nil)) fun hS => ?_
      generalize w_13.alloc (.cells #[.slice t22_11.a t22_11.n t22_11.c, .slice (some ⟨w_10.heap.size, 0, none⟩) 1 1, .slice t27_12.a t27_12.n t27_12.c] 22) = w_14 at hS h ⊢
      refine t_call 9 (by kernel_rfl) rfl (wanted_none rfl) rfl rfl (by kernel_rfl) (h.mono ?_)
      rintro _ w_16 ⟨t29_15, rfl, h⟩
      refine ⟨_, rfl, (SF_off (by kernel_rfl) (by kernel_rfl) (SF_off (by kernel_rfl) (by kernel_rfl) SF_nil)), fun hS => ?_⟩
      refine t_kw hp10 hS 10 (.slice t29_15.a t29_15.n t29_15.c : Value) rfl (wanted_none rfl) rfl rfl (by kernel_rfl) (fun _ _ => by kernel_rfl) fun hS => ?_
      refine t_kw hp10 hS 11 (.bool true : Value) rfl (wanted_none rfl) rfl rfl (by kernel_rfl) (fun _ _ => by kernel_rfl) fun hS => ?_
      refine t_done (by kernel_rfl) (hE10 _ _ ?_)
      refine y_then (hK9 _ _ ?_)
      refine y_ret ?_
      repeat (first | refine e_then_r ?_ | refine e_block_r ?_)
      exact (hQ0 _ _ _ (res2 (v1 := (.slice t29_15.a t29_15.n t29_15.c : Value)) (v2 := (.bool true : Value)) rfl rfl rfl rfl) ⟨_, _, rfl, h⟩).1

/-- turnkey/post.Take -/
def F20 (l0_1 : Sl) (n1_2 : Int) (K : Sl → Bool → World → Prop) (w : World) : Prop :=
  Calls Try.prog 63 #[.slice l0_1.a l0_1.n l0_1.c] w fun e w_4 => ∃ (t9_3 : Bool), e = .returned (.bool t9_3 : Value) ∧
  ((t9_3 = false →
  K (⟨none, 0, 0⟩) false w_4) ∧
  (t9_3 = true →
  Calls Try.prog 64 #[.slice l0_1.a l0_1.n l0_1.c, .int .u32 n1_2] w_4 fun e w_7 => ∃ (t14_5 : Int), ∃ (t14_6 : Bool), e = .returned (.tuple #[.int .i64 t14_5, .bool t14_6] : Value) ∧
  ((t14_6 = false →
  Calls Try.prog 65 #[.slice l0_1.a l0_1.n l0_1.c] w_7 fun e w_9 => ∃ (t20_8 : Sl), e = .returned (.slice t20_8.a t20_8.n t20_8.c : Value) ∧
  K t20_8 false w_9) ∧
  (t14_6 = true →
  ∀ (w_10 : World), w_10 = w_7.drew →
  ∃ (t23_11 : Sl), (Instr.sliceAt 22 (.slice l0_1.a l0_1.n l0_1.c : Value) none (some (.int .i64 t14_5 : Value)) none).run Try.prog w_10 = .ok (.slice t23_11.a t23_11.n t23_11.c : Value) w_10 ∧
  ∃ (t27_12 : Sl), (Instr.sliceAt 22 (.slice l0_1.a l0_1.n l0_1.c : Value) (some (.int .i64 (IntKind.i64.wrap (t14_5 + 1)) : Value)) none none).run Try.prog w_10 = .ok (.slice t27_12.a t27_12.n t27_12.c : Value) w_10 ∧
  ∀ (w_13 : World), w_13 = w_10.alloc (.cells #[.slice t23_11.a t23_11.n t23_11.c, .slice t27_12.a t27_12.n t27_12.c] 22) → 
  Calls Try.prog 66 #[.slice (some ⟨w_10.heap.size, 0, none⟩) 2 2] w_13 fun e w_15 => ∃ (t29_14 : Sl), e = .returned (.slice t29_14.a t29_14.n t29_14.c : Value) ∧ 
  K t29_14 true w_15))))
set_option maxHeartbeats 4000000 in
set_option maxRecDepth 20000 in
theorem F20_sound (l0_1 : Sl) (n1_2 : Int) (K : Sl → Bool → World → Prop) (w : World) (h : F20 l0_1 n1_2 K w) :
    Calls Try.prog 20 #[.slice l0_1.a l0_1.n l0_1.c, .int .u32 n1_2] w (fun e w1 => ∃ (r0 : Sl), ∃ (r1 : Bool), e = .returned (.tuple #[.slice r0.a r0.n r0.c, .bool r1]) ∧ K r0 r1 w1) := by
  unfold F20 at h
  refine y_enter (n := 30) (args := [.slice l0_1.a l0_1.n l0_1.c, .int .u32 n1_2]) Try.func20 rfl rfl rfl fun Q0 hQ0 => ?_
  refine y_seq fun K1 hK1 => ?_
  refine y_region ?_
  refine y_k (.slice none 0 0 : Value) w rfl rfl rfl (by kernel_rfl) ?_
  refine y_k (.bool false : Value) w rfl rfl rfl (by kernel_rfl) ?_
  refine y_nil ?_
  refine y_then (hK1 _ _ ?_)
  refine y_seq fun K2 hK2 => ?_
  refine y_seq fun K3 hK3 => ?_
  refine y_region ?_
  refine y_k (.slice l0_1.a l0_1.n l0_1.c : Value) w rfl rfl rfl (by kernel_rfl) ?_
  refine y_call rfl rfl rfl (by kernel_rfl) (h.mono ?_)
  rintro _ w_4 ⟨t9_3, rfl, h⟩
  refine ⟨_, rfl, ?_⟩
  refine y_k (.bool (!(t9_3)) : Value) w_4 rfl rfl rfl (by kernel_rfl) ?_
  refine y_nil ?_
  refine y_then (hK3 _ _ ?_)
  refine y_cond (!(t9_3)) rfl rfl (fun hb14 => ?_) (fun hb14 => ?_)
  · replace h := h.1 ((not_true_of hb14))
    refine y_seq fun K4 hK4 => ?_
    refine y_region ?_
    refine y_k (.slice none 0 0 : Value) w_4 rfl rfl rfl (by kernel_rfl) ?_
    refine y_k (.bool false : Value) w_4 rfl rfl rfl (by kernel_rfl) ?_
    refine y_nil ?_
    refine y_then (hK4 _ _ ?_)
    refine y_ret ?_
    repeat (first | refine e_then_r ?_ | refine e_block_r ?_)
    exact (hQ0 _ _ _ (res2 (v1 := (.slice none 0 0 : Value)) (v2 := (.bool false : Value)) rfl rfl rfl rfl) ⟨_, _, rfl, h⟩).1
  · replace h := h.2 ((not_false_of hb14))
    refine y_skip ?_
    refine y_then (hK2 _ _ ?_)
    refine y_seq fun K5 hK5 => ?_
    refine y_region ?_
    refine y_k (.slice l0_1.a l0_1.n l0_1.c : Value) w_4 rfl rfl rfl (by kernel_rfl) ?_
    refine y_k (.int .u32 n1_2 : Value) w_4 rfl rfl rfl (by kernel_rfl) ?_
    refine y_call rfl rfl rfl (by kernel_rfl) (h.mono ?_)
    rintro _ w_7 ⟨t14_5, t14_6, rfl, h⟩
    refine ⟨_, rfl, ?_⟩
    refine y_k (.tuple #[.int .i64 t14_5, .bool t14_6] : Value) w_7 rfl rfl rfl (by kernel_rfl) ?_
    refine y_k (.int .i64 t14_5 : Value) w_7 rfl rfl rfl (by kernel_rfl) ?_
    refine y_k (.bool t14_6 : Value) w_7 rfl rfl rfl (by kernel_rfl) ?_
    refine y_k (.int .i64 t14_5 : Value) w_7 rfl rfl rfl (by kernel_rfl) ?_
    refine y_k (.bool t14_6 : Value) w_7 rfl rfl rfl (by kernel_rfl) ?_
    refine y_nil ?_
    refine y_then (hK5 _ _ ?_)
    refine y_seq fun K6 hK6 => ?_
    refine y_seq fun K7 hK7 => ?_
    refine y_region ?_
    refine y_k (.bool t14_6 : Value) w_7 rfl rfl rfl (by kernel_rfl) ?_
    refine y_k (.bool (!(t14_6)) : Value) w_7 rfl rfl rfl (by kernel_rfl) ?_
    refine y_nil ?_
    refine y_then (hK7 _ _ ?_)
    refine y_cond (!(t14_6)) rfl rfl (fun hb13 => ?_) (fun hb13 => ?_)
    · replace h := h.1 ((not_true_of hb13))
      refine y_seq fun K8 hK8 => ?_
      refine y_region ?_
      refine y_k (.slice l0_1.a l0_1.n l0_1.c : Value) w_7 rfl rfl rfl (by kernel_rfl) ?_
      refine y_call rfl rfl rfl (by kernel_rfl) (h.mono ?_)
      rintro _ w_9 ⟨t20_8, rfl, h⟩
      refine ⟨_, rfl, ?_⟩
      refine y_k (.slice t20_8.a t20_8.n t20_8.c : Value) w_9 rfl rfl rfl (by kernel_rfl) ?_
      refine y_k (.bool false : Value) w_9 rfl rfl rfl (by kernel_rfl) ?_
      refine y_nil ?_
      refine y_then (hK8 _ _ ?_)
      refine y_ret ?_
      repeat (first | refine e_then_r ?_ | refine e_block_r ?_)
      exact (hQ0 _ _ _ (res2 (v1 := (.slice t20_8.a t20_8.n t20_8.c : Value)) (v2 := (.bool false : Value)) rfl rfl rfl rfl) ⟨_, _, rfl, h⟩).1
    · replace h := h.2 ((not_false_of hb13))
      refine y_skip ?_
      refine y_then (hK6 _ _ ?_)
      refine y_seq fun K9 hK9 => ?_
      obtain ⟨w_10, hwd10⟩ : ∃ wd : World, wd = w_7.drew := ⟨_, rfl⟩
      replace h := h _ hwd10
      refine t_region (wd := w_10) [] (by kernel_rfl) hwd10 SF_nil fun Q10 hE10 hp10 hS => ?_
      clear hwd10
      refine t_kw hp10 hS 0 (.slice l0_1.a l0_1.n l0_1.c : Value) rfl (wanted_none rfl) rfl rfl (by kernel_rfl) (fun _ _ => by kernel_rfl) fun hS => ?_
      refine t_kw hp10 hS 1 (.int .i64 t14_5 : Value) rfl (wanted_none rfl) rfl rfl (by kernel_rfl) (fun _ _ => by kernel_rfl) fun hS => ?_
      obtain ⟨t23_11, hx11, h⟩ := h
      refine t_add ⟨2, [7, 8], fun wx => (Instr.sliceAt 22 (.slice l0_1.a l0_1.n l0_1.c : Value) none (some (.int .i64 t14_5 : Value)) none).run Try.prog wx = .ok (.slice t23_11.a t23_11.n t23_11.c : Value) wx⟩ ?_
      replace hS := SF_on (x := ⟨2, [7, 8], fun wx => (Instr.sliceAt 22 (.slice l0_1.a l0_1.n l0_1.c : Value) none (some (.int .i64 t14_5 : Value)) none).run Try.prog wx = .ok (.slice t23_11.a t23_11.n t23_11.c : Value) wx⟩) hx11 hS
      refine t_v (s := Instr.sliceAt 22 (.slice l0_1.a l0_1.n l0_1.c : Value) none (some (.int .i64 t14_5 : Value)) none) hp10 hS 2 (.slice t23_11.a t23_11.n t23_11.c : Value) rfl (wanted_none rfl) rfl rfl (by kernel_rfl) (by kernel_rfl) (fun _ hw => (Sw.fact (List.Mem.head _) rfl hw)) fun hS => ?_
      refine t_kw hp10 hS 3 (.slice l0_1.a l0_1.n l0_1.c : Value) rfl (wanted_none rfl) rfl rfl (by kernel_rfl) (fun _ _ => by kernel_rfl) fun hS => ?_
      refine t_kw hp10 hS 4 (.int .i64 t14_5 : Value) rfl (wanted_none rfl) rfl rfl (by kernel_rfl) (fun _ _ => by kernel_rfl) fun hS => ?_
      refine t_kw hp10 hS 5 (.int .i64 (IntKind.i64.wrap (t14_5 + 1)) : Value) rfl (wanted_none rfl) rfl rfl (by kernel_rfl) (fun _ _ => by kernel_rfl) fun hS => ?_
      obtain ⟨t27_12, hx12, h⟩ := h
      refine t_add ⟨6, [7, 8], fun wx => (Instr.sliceAt 22 (.slice l0_1.a l0_1.n l0_1.c : Value) (some (.int .i64 (IntKind.i64.wrap (t14_5 + 1)) : Value)) none none).run Try.prog wx = .ok (.slice t27_12.a t27_12.n t27_12.c : Value) wx⟩ ?_
      replace hS := SF_on (x := ⟨6, [7, 8], fun wx => (Instr.sliceAt 22 (.slice l0_1.a l0_1.n l0_1.c : Value) (some (.int .i64 (IntKind.i64.wrap (t14_5 + 1)) : Value)) none none).run Try.prog wx = .ok (.slice t27_12.a t27_12.n t27_12.c : Value) wx⟩) hx12 hS
      refine t_v (s := Instr.sliceAt 22 (.slice l0_1.a l0_1.n l0_1.c : Value) (some (.int .i64 (IntKind.i64.wrap (t14_5 + 1)) : Value)) none none) hp10 hS 6 (.slice t27_12.a t27_12.n t27_12.c : Value) rfl (wanted_none rfl) rfl rfl (by kernel_rfl) (by kernel_rfl) (fun _ hw => (Sw.fact (List.Mem.head _) rfl hw)) fun hS => ?_
      replace h := h _ rfl
      refine t_kstep 7 (.slice (some ⟨w_10.heap.size, 0, none⟩) 2 2 : Value) (w_10.alloc (.cells #[.slice t23_11.a t23_11.n t23_11.c, .slice t27_12.a t27_12.n t27_12.c] 22)) (by kernel_rfl) rfl (wanted_none rfl) rfl rfl (by kernel_rfl) (SF_off (by kernel_rfl) (by kernel_rfl) (SF_off (by kernel_rfl) (by kernel_rfl) SF_nil)) fun hS => ?_
      generalize w_10.alloc (.cells #[.slice t23_11.a t23_11.n t23_11.c, .slice t27_12.a t27_12.n t27_12.c] 22) = w_13 at hS h ⊢
      refine t_call 8 (by kernel_rfl) rfl (wanted_none rfl) rfl rfl (by kernel_rfl) (h.mono ?_)
      rintro _ w_15 ⟨t29_14, rfl, h⟩
      refine ⟨_, rfl, (SF_off (by kernel_rfl) (by kernel_rfl) (SF_off (by kernel_rfl) (by kernel_rfl) SF_nil)), fun hS => ?_⟩
      refine t_kw hp10 hS 9 (.slice t29_14.a t29_14.n t29_14.c : Value) rfl (wanted_none rfl) rfl rfl (by kernel_rfl) (fun _ _ => by kernel_rfl) fun hS => ?_
      refine t_kw hp10 hS 10 (.bool true : Value) rfl (wanted_none rfl) rfl rfl (by kernel_rfl) (fun _ _ => by kernel_rfl) fun hS => ?_
      refine t_done (by kernel_rfl) (hE10 _ _ ?_)
      refine y_then (hK9 _ _ ?_)
      refine y_ret ?_
      repeat (first | refine e_then_r ?_ | refine e_block_r ?_)
      exact (hQ0 _ _ _ (res2 (v1 := (.slice t29_14.a t29_14.n t29_14.c : Value)) (v2 := (.bool true : Value)) rfl rfl rfl rfl) ⟨_, _, rfl, h⟩).1

def F31_j2 (out6_7 : Sl) (t19_8 : Int) (next9 : (Sl × Int) → World → Prop) (n8_14 : Int) (w_15 : World) : Prop :=
  Calls Try.prog 69 #[.slice none 0 0, .int .u64 (IntKind.u64.wrap n8_14)] w_15 fun e w_17 => ∃ (t37_16 : Sl), e = .returned (.slice t37_16.a t37_16.n t37_16.c : Value) ∧
  ∃ (t38_18 : Sl), ∃ (w_19 : World), (Builtin.append_ #[33, 33] 33 #[.slice out6_7.a out6_7.n out6_7.c, .slice t37_16.a t37_16.n t37_16.c]).run Try.prog w_17 = .ok (.slice t38_18.a t38_18.n t38_18.c : Value) w_19 ∧
  next9 (t38_18, IntKind.i64.wrap (t19_8 + 1)) w_19
def F31_l1 (l1_2 : Sl) (K : Sl → Bool → World → Prop) (next9 : (Sl × Int) → World → Prop) : (Sl × Int) → World → Prop := fun (out6_7, t19_8) w_9 =>
  ((t19_8 < ((l1_2.n : Int)) →
  (0 : Int) ≤ t19_8 ∧ t19_8 < (l1_2.n : Int) ∧ ∃ (a_10 : Addr), l1_2.a = some a_10 ∧
  ∃ (t23_11 : Int), w_9.cell? (a_10.add (Int.toNat t19_8)) = some (.int .u32 t23_11) ∧
  ((t19_8 > 0 →
  (0 : Int) ≤ (IntKind.i64.wrap (t19_8 - 1)) ∧ (IntKind.i64.wrap (t19_8 - 1)) < (l1_2.n : Int) ∧ ∃ (a_12 : Addr), l1_2.a = some a_12 ∧
  ∃ (t31_13 : Int), w_9.cell? (a_12.add (Int.toNat (IntKind.i64.wrap (t19_8 - 1)))) = some (.int .u32 t31_13) ∧
  F31_j2 out6_7 t19_8 next9 (IntKind.u32.wrap (t23_11 - (IntKind.u32.wrap (t31_13 + 1)))) w_9) ∧
  (¬ (t19_8 > 0) →
  F31_j2 out6_7 t19_8 next9 t23_11 w_9))) ∧
  (¬ (t19_8 < ((l1_2.n : Int))) →
  K out6_7 true w_9))
/-- turnkey/post.Put -/
def F31 (b0_1 : Sl) (l1_2 : Sl) (K : Sl → Bool → World → Prop) (w : World) : Prop :=
  Calls Try.prog 63 #[.slice l1_2.a l1_2.n l1_2.c] w fun e w_4 => ∃ (t10_3 : Bool), e = .returned (.bool t10_3 : Value) ∧
  ((t10_3 = false →
  K (⟨none, 0, 0⟩) false w_4) ∧
  (t10_3 = true →
  Calls Try.prog 69 #[.slice b0_1.a b0_1.n b0_1.c, .int .u64 (IntKind.u64.wrap ((l1_2.n : Int)))] w_4 fun e w_6 => ∃ (t16_5 : Sl), e = .returned (.slice t16_5.a t16_5.n t16_5.c : Value) ∧
  kLoop (F31_l1 l1_2 K) (t16_5, 0) w_6))
set_option maxHeartbeats 4000000 in
set_option maxRecDepth 20000 in
theorem F31_sound (b0_1 : Sl) (l1_2 : Sl) (K : Sl → Bool → World → Prop) (w : World) (h : F31 b0_1 l1_2 K w) :
    Calls Try.prog 31 #[.slice b0_1.a b0_1.n b0_1.c, .slice l1_2.a l1_2.n l1_2.c] w (fun e w1 => ∃ (r0 : Sl), ∃ (r1 : Bool), e = .returned (.tuple #[.slice r0.a r0.n r0.c, .bool r1]) ∧ K r0 r1 w1) := by
  unfold F31 at h
  refine y_enter (n := 41) (args := [.slice b0_1.a b0_1.n b0_1.c, .slice l1_2.a l1_2.n l1_2.c]) Try.func31 rfl rfl rfl fun Q0 hQ0 => ?_
  refine y_seq fun K1 hK1 => ?_
  refine y_region ?_
  refine y_k (.slice none 0 0 : Value) w rfl rfl rfl (by kernel_rfl) ?_
  refine y_k (.bool false : Value) w rfl rfl rfl (by kernel_rfl) ?_
  refine y_nil ?_
  refine y_then (hK1 _ _ ?_)
  refine y_seq fun K2 hK2 => ?_
  refine y_seq fun K3 hK3 => ?_
  refine y_region ?_
  refine y_k (.slice l1_2.a l1_2.n l1_2.c : Value) w rfl rfl rfl (by kernel_rfl) ?_
  refine y_call rfl rfl rfl (by kernel_rfl) (h.mono ?_)
  rintro _ w_4 ⟨t10_3, rfl, h⟩
  refine ⟨_, rfl, ?_⟩
  refine y_k (.bool (!(t10_3)) : Value) w_4 rfl rfl rfl (by kernel_rfl) ?_
  refine y_nil ?_
  refine y_then (hK3 _ _ ?_)
  refine y_cond (!(t10_3)) rfl rfl (fun hb26 => ?_) (fun hb26 => ?_)
  · replace h := h.1 ((not_true_of hb26))
    refine y_seq fun K4 hK4 => ?_
    refine y_region ?_
    refine y_k (.slice none 0 0 : Value) w_4 rfl rfl rfl (by kernel_rfl) ?_
    refine y_k (.bool false : Value) w_4 rfl rfl rfl (by kernel_rfl) ?_
    refine y_nil ?_
    refine y_then (hK4 _ _ ?_)
    refine y_ret ?_
    repeat (first | refine e_then_r ?_ | refine e_block_r ?_)
    exact (hQ0 _ _ _ (res2 (v1 := (.slice none 0 0 : Value)) (v2 := (.bool false : Value)) rfl rfl rfl rfl) ⟨_, _, rfl, h⟩).1
  · replace h := h.2 ((not_false_of hb26))
    refine y_skip ?_
    refine y_then (hK2 _ _ ?_)
    refine y_seq fun K5 hK5 => ?_
    refine y_region ?_
    refine y_k (.slice b0_1.a b0_1.n b0_1.c : Value) w_4 rfl rfl rfl (by kernel_rfl) ?_
    refine y_k (.slice l1_2.a l1_2.n l1_2.c : Value) w_4 rfl rfl rfl (by kernel_rfl) ?_
    refine y_k (.int .i64 ((l1_2.n : Int)) : Value) w_4 rfl rfl rfl (by kernel_rfl) ?_
    refine y_k (.int .u64 (IntKind.u64.wrap ((l1_2.n : Int))) : Value) w_4 rfl rfl rfl (by kernel_rfl) ?_
    refine y_call rfl rfl rfl (by kernel_rfl) (h.mono ?_)
    rintro _ w_6 ⟨t16_5, rfl, h⟩
    refine ⟨_, rfl, ?_⟩
    refine y_k (.slice t16_5.a t16_5.n t16_5.c : Value) w_6 rfl rfl rfl (by kernel_rfl) ?_
    refine y_nil ?_
    refine y_then (hK5 _ _ ?_)
    refine y_seq fun K6 hK6 => ?_
    refine y_seq fun K7 hK7 => ?_
    refine y_region ?_
    refine y_k (.slice l1_2.a l1_2.n l1_2.c : Value) w_6 rfl rfl rfl (by kernel_rfl) ?_
    refine y_k (.int .i64 ((l1_2.n : Int)) : Value) w_6 rfl rfl rfl (by kernel_rfl) ?_
    refine y_k (.int .i64 0 : Value) w_6 rfl rfl rfl (by kernel_rfl) ?_
    refine y_nil ?_
    refine y_then (hK7 _ _ ?_)
    refine y_block ?_
    refine y_loop (S := Sl × Int) (fun s j => match s with | (out6_7, t19_8) => upd (upd (upd (upd (upd (j) 1 (.slice l1_2.a l1_2.n l1_2.c : Value)) 6 (.slice out6_7.a out6_7.n out6_7.c : Value)) 17 (.slice l1_2.a l1_2.n l1_2.c : Value)) 18 (.int .i64 ((l1_2.n : Int)) : Value)) 19 (.int .i64 t19_8 : Value)) (t16_5, 0) ?_ h ?_
    · dsimp only
      refine upd_id ?_ rfl
      refine upd_id ?_ rfl
      refine upd_id ?_ rfl
      refine upd_id ?_ rfl
      refine upd_id ?_ rfl
      rfl
    rintro KN10 next9 hN10 ⟨out6_7, t19_8⟩ j w_9 h
    unfold F31_l1 at h
    refine y_seq fun K11 hK11 => ?_
    refine y_region ?_
    refine y_k (.bool (decide (t19_8 < ((l1_2.n : Int)))) : Value) w_9 rfl rfl rfl (by kernel_rfl) ?_
    refine y_nil ?_
    refine y_then (hK11 _ _ ?_)
    refine y_seq fun K12 hK12 => ?_
    refine y_cond (decide (t19_8 < ((l1_2.n : Int)))) rfl rfl (fun hb25 => ?_) (fun hb25 => ?_)
    · replace h := h.1 (of_decide_eq_true hb25)
      refine y_skip ?_
      refine y_then (hK12 _ _ ?_)
      refine y_seq fun K13 hK13 => ?_
      refine y_block ?_
      refine y_seq fun K15 hK15 => ?_
      refine y_region ?_
      refine y_k (.int .i64 t19_8 : Value) w_9 rfl rfl rfl (by kernel_rfl) ?_
      obtain ⟨hx16a, hx16b, a_10, hx16, h⟩ := h
      refine y_v (v := (.pointer (some (a_10.add (Int.toNat t19_8))) : Value)) (s := Instr.indexAt 22 (.slice l1_2.a l1_2.n l1_2.c : Value) (.int .i64 t19_8 : Value)) rfl rfl rfl (by kernel_rfl) (run_ixs1 (el := 23) (by kernel_rfl) (by kernel_rfl) hx16 hx16a hx16b) ?_
      obtain ⟨t23_11, hx17, h⟩ := h
      refine y_v (s := Instr.loadAt 23 (.pointer (some (a_10.add (Int.toNat t19_8))))) rfl rfl rfl (by kernel_rfl) (rn_load (by kernel_rfl) hx17) ?_
      refine y_k (.int .i64 t19_8 : Value) w_9 rfl rfl rfl (by kernel_rfl) ?_
      refine y_k (.int .u32 t23_11 : Value) w_9 rfl rfl rfl (by kernel_rfl) ?_
      refine y_nil ?_
      refine y_then (hK15 _ _ ?_)
      refine y_seq fun K18 hK18 => ?_
      have hjK18 : ∀ (f : Fr) (n8_14 : Int) (w_15 : World), f 1 = (.slice l1_2.a l1_2.n l1_2.c : Value) → f 6 = (.slice out6_7.a out6_7.n out6_7.c : Value) → f 8 = (.int .u32 n8_14 : Value) → f 17 = (.slice l1_2.a l1_2.n l1_2.c : Value) → f 18 = (.int .i64 ((l1_2.n : Int)) : Value) → f 19 = (.int .i64 t19_8 : Value) → F31_j2 out6_7 t19_8 next9 n8_14 w_15 → WK K18 41 f w_15 := by
        intro f n8_14 w_15 e1 e6 e8 e17 e18 e19 h
        refine y_atf (upd_id (upd_id (upd_id (upd_id (upd_id (upd_id rfl e1) e6) e8) e17) e18) e19) ?_
        clear e1 e6 e8 e17 e18 e19
        unfold F31_j2 at h
        refine hK18 _ _ ?_
        refine y_region ?_
        refine y_k (.slice out6_7.a out6_7.n out6_7.c : Value) w_15 rfl rfl rfl (by kernel_rfl) ?_
        refine y_k (.int .u32 n8_14 : Value) w_15 rfl rfl rfl (by kernel_rfl) ?_
        refine y_k (.int .u64 (IntKind.u64.wrap n8_14) : Value) w_15 rfl rfl rfl (by kernel_rfl) ?_
        refine y_call rfl rfl rfl (by kernel_rfl) (h.mono ?_)
        rintro _ w_17 ⟨t37_16, rfl, h⟩
        refine ⟨_, rfl, ?_⟩
        obtain ⟨t38_18, w_19, hx22, h⟩ := h
        refine y_v (s := Builtin.append_ #[33, 33] 33 #[.slice out6_7.a out6_7.n out6_7.c, .slice t37_16.a t37_16.n t37_16.c]) rfl rfl rfl (by kernel_rfl) hx22 ?_
        refine y_k (.slice t38_18.a t38_18.n t38_18.c : Value) w_19 rfl rfl rfl (by kernel_rfl) ?_
        refine y_nil ?_
        refine e_block_n ?_
        refine y_then (hK13 _ _ ?_)
        refine y_region ?_
        refine y_k (.int .i64 (IntKind.i64.wrap (t19_8 + 1)) : Value) w_19 rfl rfl rfl (by kernel_rfl) ?_
        refine y_k (.int .i64 (IntKind.i64.wrap (t19_8 + 1)) : Value) w_19 rfl rfl rfl (by kernel_rfl) ?_
        refine y_nil ?_
        refine y_then (hN10 (t38_18, IntKind.i64.wrap (t19_8 + 1)) _ _ h ?_)
        dsimp only
        refine upd_id ?_ rfl
        refine upd_id ?_ rfl
        refine upd_id ?_ rfl
        refine upd_id ?_ rfl
        refine upd_id ?_ rfl
        rfl
      refine y_seq fun K19 hK19 => ?_
      refine y_region ?_
      refine y_k (.int .i64 t19_8 : Value) w_9 rfl rfl rfl (by kernel_rfl) ?_
      refine y_k (.bool (decide (t19_8 > 0)) : Value) w_9 rfl rfl rfl (by kernel_rfl) ?_
      refine y_nil ?_
      refine y_then (hK19 _ _ ?_)
      refine y_cond (decide (t19_8 > 0)) rfl rfl (fun hb23 => ?_) (fun hb23 => ?_)
      · replace h := h.1 (of_decide_eq_true hb23)
        refine y_region ?_
        refine y_k (.int .u32 t23_11 : Value) w_9 rfl rfl rfl (by kernel_rfl) ?_
        refine y_k (.slice l1_2.a l1_2.n l1_2.c : Value) w_9 rfl rfl rfl (by kernel_rfl) ?_
        refine y_k (.int .i64 t19_8 : Value) w_9 rfl rfl rfl (by kernel_rfl) ?_
        refine y_k (.int .i64 (IntKind.i64.wrap (t19_8 - 1)) : Value) w_9 rfl rfl rfl (by kernel_rfl) ?_
        obtain ⟨hx20a, hx20b, a_12, hx20, h⟩ := h
        refine y_v (v := (.pointer (some (a_12.add (Int.toNat (IntKind.i64.wrap (t19_8 - 1))))) : Value)) (s := Instr.indexAt 22 (.slice l1_2.a l1_2.n l1_2.c : Value) (.int .i64 (IntKind.i64.wrap (t19_8 - 1)) : Value)) rfl rfl rfl (by kernel_rfl) (run_ixs1 (el := 23) (by kernel_rfl) (by kernel_rfl) hx20 hx20a hx20b) ?_
        obtain ⟨t31_13, hx21, h⟩ := h
        refine y_v (s := Instr.loadAt 23 (.pointer (some (a_12.add (Int.toNat (IntKind.i64.wrap (t19_8 - 1))))))) rfl rfl rfl (by kernel_rfl) (rn_load (by kernel_rfl) hx21) ?_
        refine y_k (.int .u32 (IntKind.u32.wrap (t31_13 + 1)) : Value) w_9 rfl rfl rfl (by kernel_rfl) ?_
        refine y_k (.int .u32 (IntKind.u32.wrap (t23_11 - (IntKind.u32.wrap (t31_13 + 1)))) : Value) w_9 rfl rfl rfl (by kernel_rfl) ?_
        refine y_k (.int .u32 (IntKind.u32.wrap (t23_11 - (IntKind.u32.wrap (t31_13 + 1)))) : Value) w_9 rfl rfl rfl (by kernel_rfl) ?_
        refine y_nil ?_
        exact y_then (hjK18 _ (IntKind.u32.wrap (t23_11 - (IntKind.u32.wrap (t31_13 + 1)))) w_9 rfl rfl rfl rfl rfl rfl h)
      · replace h := h.2 (of_decide_eq_false hb23)
        refine y_skip ?_
        exact y_then (hjK18 _ t23_11 w_9 rfl rfl rfl rfl rfl rfl h)
    · replace h := h.2 (of_decide_eq_false hb25)
      refine y_exit ?_
      repeat (first | refine e_then_x ?_ | refine e_block_y rfl ?_)
      refine e_block_x ?_
      refine y_then (hK6 _ _ ?_)
      refine y_seq fun K24 hK24 => ?_
      refine y_region ?_
      refine y_k (.slice out6_7.a out6_7.n out6_7.c : Value) w_9 rfl rfl rfl (by kernel_rfl) ?_
      refine y_k (.slice out6_7.a out6_7.n out6_7.c : Value) w_9 rfl rfl rfl (by kernel_rfl) ?_
      refine y_k (.bool true : Value) w_9 rfl rfl rfl (by kernel_rfl) ?_
      refine y_nil ?_
      refine y_then (hK24 _ _ ?_)
      refine y_ret ?_
      repeat (first | refine e_then_r ?_ | refine e_block_r ?_)
      exact (hQ0 _ _ _ (res2 (v1 := (.slice out6_7.a out6_7.n out6_7.c : Value)) (v2 := (.bool true : Value)) rfl rfl rfl rfl) ⟨_, _, rfl, h⟩).1

def F33_l1 (b0_1 : Sl) (K : Sl → Int → World → Prop) (t12_2 : Int) (next14 : (Int × Sl × Int × Int) → World → Prop) : (Int × Sl × Int × Int) → World → Prop := fun (at5_7, out6_8, next7_9, t29_10) w_11 =>
  ((t29_10 < t12_2 →
  ∃ (t34_12 : Sl), (Instr.sliceAt 33 (.slice b0_1.a b0_1.n b0_1.c : Value) (some (.int .i64 at5_7 : Value)) none none).run Try.prog w_11 = .ok (.slice t34_12.a t34_12.n t34_12.c : Value) w_11 ∧
  Calls Try.prog 71 #[.slice t34_12.a t34_12.n t34_12.c] w_11 fun e w_15 => ∃ (t35_13 : Int), ∃ (t35_14 : Int), e = .returned (.tuple #[.int .u64 t35_13, .int .i64 t35_14] : Value) ∧
  ((t35_14 = 0 →
  K (⟨none, 0, 0⟩) 0 w_15) ∧
  (¬ t35_14 = 0 →
  ((t35_13 > 4294967295 →
  K (⟨none, 0, 0⟩) 0 w_15) ∧
  (¬ (t35_13 > 4294967295) →
  (((IntKind.u64.wrap (next7_9 + t35_13)) > 4294967295 →
  K (⟨none, 0, 0⟩) 0 w_15) ∧
  (¬ ((IntKind.u64.wrap (next7_9 + t35_13)) > 4294967295) →
  ∀ (w_16 : World), w_16 = w_15.alloc (.cells #[.int .u32 (IntKind.u32.wrap (IntKind.u64.wrap (next7_9 + t35_13)))] 23) →
  ∃ (t59_17 : Sl), ∃ (w_18 : World), (Builtin.append_ #[22, 22] 22 #[.slice out6_8.a out6_8.n out6_8.c, .slice (some ⟨w_15.heap.size, 0, none⟩) 1 1]).run Try.prog w_16 = .ok (.slice t59_17.a t59_17.n t59_17.c : Value) w_18 ∧
  next14 (IntKind.i64.wrap (at5_7 + t35_14), t59_17, IntKind.u64.wrap (next7_9 + (IntKind.u64.wrap (t35_13 + 1))), IntKind.u64.wrap (t29_10 + 1)) w_18))))))) ∧
  (¬ (t29_10 < t12_2) →
  K out6_8 at5_7 w_11))
/-- turnkey/post.Get -/
def F33 (b0_1 : Sl) (K : Sl → Int → World → Prop) (w : World) : Prop :=
  Calls Try.prog 71 #[.slice b0_1.a b0_1.n b0_1.c] w fun e w_4 => ∃ (t12_2 : Int), ∃ (t12_3 : Int), e = .returned (.tuple #[.int .u64 t12_2, .int .i64 t12_3] : Value) ∧
  ((t12_3 = 0 →
  K (⟨none, 0, 0⟩) 0 w_4) ∧
  (¬ t12_3 = 0 →
  ((t12_2 > (IntKind.u64.wrap (IntKind.i64.wrap (((b0_1.n : Int)) - t12_3))) →
  K (⟨none, 0, 0⟩) 0 w_4) ∧
  (¬ (t12_2 > (IntKind.u64.wrap (IntKind.i64.wrap (((b0_1.n : Int)) - t12_3)))) →
  ∃ (t27_5 : Sl), ∃ (w_6 : World), (Instr.makeSlice 22 (.int .i64 0 : Value) (.int .u64 t12_2 : Value)).run Try.prog w_4 = .ok (.slice t27_5.a t27_5.n t27_5.c : Value) w_6 ∧
  kLoop (F33_l1 b0_1 K t12_2) (t12_3, t27_5, 0, 0) w_6))))
set_option maxHeartbeats 4000000 in
set_option maxRecDepth 20000 in
theorem F33_sound (b0_1 : Sl) (K : Sl → Int → World → Prop) (w : World) (h : F33 b0_1 K w) :
    Calls Try.prog 33 #[.slice b0_1.a b0_1.n b0_1.c] w (fun e w1 => ∃ (r0 : Sl), ∃ (r1 : Int), e = .returned (.tuple #[.slice r0.a r0.n r0.c, .int .i64 r1]) ∧ K r0 r1 w1) := by
  unfold F33 at h
  refine y_enter (n := 67) (args := [.slice b0_1.a b0_1.n b0_1.c]) Try.func33 rfl rfl rfl fun Q0 hQ0 => ?_
  refine y_seq fun K1 hK1 => ?_
  refine y_region ?_
  refine y_k (.slice none 0 0 : Value) w rfl rfl rfl (by kernel_rfl) ?_
  refine y_k (.int .i64 0 : Value) w rfl rfl rfl (by kernel_rfl) ?_
  refine y_nil ?_
  refine y_then (hK1 _ _ ?_)
  refine y_seq fun K2 hK2 => ?_
  refine y_region ?_
  refine y_k (.slice b0_1.a b0_1.n b0_1.c : Value) w rfl rfl rfl (by kernel_rfl) ?_
  refine y_call rfl rfl rfl (by kernel_rfl) (h.mono ?_)
  rintro _ w_4 ⟨t12_2, t12_3, rfl, h⟩
  refine ⟨_, rfl, ?_⟩
  refine y_k (.tuple #[.int .u64 t12_2, .int .i64 t12_3] : Value) w_4 rfl rfl rfl (by kernel_rfl) ?_
  refine y_k (.int .u64 t12_2 : Value) w_4 rfl rfl rfl (by kernel_rfl) ?_
  refine y_k (.int .i64 t12_3 : Value) w_4 rfl rfl rfl (by kernel_rfl) ?_
  refine y_k (.int .u64 t12_2 : Value) w_4 rfl rfl rfl (by kernel_rfl) ?_
  refine y_k (.int .i64 t12_3 : Value) w_4 rfl rfl rfl (by kernel_rfl) ?_
  refine y_nil ?_
  refine y_then (hK2 _ _ ?_)
  refine y_seq fun K3 hK3 => ?_
  refine y_seq fun K4 hK4 => ?_
  refine y_region ?_
  refine y_k (.int .i64 t12_3 : Value) w_4 rfl rfl rfl (by kernel_rfl) ?_
  refine y_k (.bool ((t12_3 == 0)) : Value) w_4 rfl rfl rfl (by kernel_rfl) ?_
  refine y_k (.bool ((t12_3 == 0)) : Value) w_4 rfl rfl rfl (by kernel_rfl) ?_
  refine y_fork ((t12_3 == 0)) (fun hb5 => ?_) (fun hb5 => ?_)
  · replace h := h.1 (eq_of_beq hb5)
    refine y_frame (upd_id (i := 17) (v := .bool true) rfl (congrArg Value.bool hb5)) ?_
    refine y_gno rfl rfl rfl rfl ?_
    refine y_gno rfl rfl rfl rfl ?_
    refine y_gno rfl rfl rfl rfl ?_
    refine y_gno rfl rfl rfl rfl ?_
    refine y_gno rfl rfl rfl rfl ?_
    refine y_gno rfl rfl rfl rfl ?_
    refine y_gno rfl rfl rfl rfl ?_
    refine y_k (.bool true : Value) w_4 rfl rfl rfl (by kernel_rfl) ?_
    refine y_nil ?_
    refine y_then (hK4 _ _ ?_)
    refine y_cond_t rfl rfl ?_
    refine y_seq fun K6 hK6 => ?_
    refine y_region ?_
    refine y_k (.slice none 0 0 : Value) w_4 rfl rfl rfl (by kernel_rfl) ?_
    refine y_k (.int .i64 0 : Value) w_4 rfl rfl rfl (by kernel_rfl) ?_
    refine y_nil ?_
    refine y_then (hK6 _ _ ?_)
    refine y_ret ?_
    repeat (first | refine e_then_r ?_ | refine e_block_r ?_)
    exact (hQ0 _ _ _ (res2 (v1 := (.slice none 0 0 : Value)) (v2 := (.int .i64 0 : Value)) rfl rfl rfl rfl) ⟨_, _, rfl, h⟩).1
  · replace h := h.2 (beq_eq_false_iff_ne.mp hb5)
    refine y_frame (upd_id (i := 17) (v := .bool false) rfl (congrArg Value.bool hb5)) ?_
    refine y_gyes rfl rfl rfl ?_
    refine y_k (.int .u64 t12_2 : Value) w_4 rfl rfl rfl (by kernel_rfl) ?_
    refine y_gyes rfl rfl rfl ?_
    refine y_k (.slice b0_1.a b0_1.n b0_1.c : Value) w_4 rfl rfl rfl (by kernel_rfl) ?_
    refine y_gyes rfl rfl rfl ?_
    refine y_k (.int .i64 ((b0_1.n : Int)) : Value) w_4 rfl rfl rfl (by kernel_rfl) ?_
    refine y_gyes rfl rfl rfl ?_
    refine y_k (.int .i64 t12_3 : Value) w_4 rfl rfl rfl (by kernel_rfl) ?_
    refine y_gyes rfl rfl rfl ?_
    refine y_k (.int .i64 (IntKind.i64.wrap (((b0_1.n : Int)) - t12_3)) : Value) w_4 rfl rfl rfl (by kernel_rfl) ?_
    refine y_gyes rfl rfl rfl ?_
    refine y_k (.int .u64 (IntKind.u64.wrap (IntKind.i64.wrap (((b0_1.n : Int)) - t12_3))) : Value) w_4 rfl rfl rfl (by kernel_rfl) ?_
    refine y_gyes rfl rfl rfl ?_
    refine y_k (.bool (decide (t12_2 > (IntKind.u64.wrap (IntKind.i64.wrap (((b0_1.n : Int)) - t12_3))))) : Value) w_4 rfl rfl rfl (by kernel_rfl) ?_
    refine y_k (.bool (decide (t12_2 > (IntKind.u64.wrap (IntKind.i64.wrap (((b0_1.n : Int)) - t12_3))))) : Value) w_4 rfl rfl rfl (by kernel_rfl) ?_
    refine y_nil ?_
    refine y_then (hK4 _ _ ?_)
    refine y_cond (decide (t12_2 > (IntKind.u64.wrap (IntKind.i64.wrap (((b0_1.n : Int)) - t12_3))))) rfl rfl (fun hb35 => ?_) (fun hb35 => ?_)
    · replace h := h.1 (of_decide_eq_true hb35)
      refine y_seq fun K7 hK7 => ?_
      refine y_region ?_
      refine y_k (.slice none 0 0 : Value) w_4 rfl rfl rfl (by kernel_rfl) ?_
      refine y_k (.int .i64 0 : Value) w_4 rfl rfl rfl (by kernel_rfl) ?_
      refine y_nil ?_
      refine y_then (hK7 _ _ ?_)
      refine y_ret ?_
      repeat (first | refine e_then_r ?_ | refine e_block_r ?_)
      exact (hQ0 _ _ _ (res2 (v1 := (.slice none 0 0 : Value)) (v2 := (.int .i64 0 : Value)) rfl rfl rfl rfl) ⟨_, _, rfl, h⟩).1
    · replace h := h.2 (of_decide_eq_false hb35)
      refine y_skip ?_
      refine y_then (hK3 _ _ ?_)
      refine y_seq fun K8 hK8 => ?_
      refine y_region ?_
      refine y_k (.int .u64 t12_2 : Value) w_4 rfl rfl rfl (by kernel_rfl) ?_
      obtain ⟨t27_5, w_6, hx9, h⟩ := h
      refine y_v (s := Instr.makeSlice 22 (.int .i64 0 : Value) (.int .u64 t12_2 : Value)) rfl rfl rfl (by kernel_rfl) hx9 ?_
      refine y_k (.slice t27_5.a t27_5.n t27_5.c : Value) w_6 rfl rfl rfl (by kernel_rfl) ?_
      refine y_nil ?_
      refine y_then (hK8 _ _ ?_)
      refine y_seq fun K10 hK10 => ?_
      refine y_region ?_
      refine y_k (.int .u64 0 : Value) w_6 rfl rfl rfl (by kernel_rfl) ?_
      refine y_nil ?_
      refine y_then (hK10 _ _ ?_)
      refine y_seq fun K11 hK11 => ?_
      refine y_seq fun K12 hK12 => ?_
      refine y_region ?_
      refine y_k (.int .u64 t12_2 : Value) w_6 rfl rfl rfl (by kernel_rfl) ?_
      refine y_k (.int .u64 0 : Value) w_6 rfl rfl rfl (by kernel_rfl) ?_
      refine y_nil ?_
      refine y_then (hK12 _ _ ?_)
      refine y_block ?_
      refine y_loop (S := Int × Sl × Int × Int) (fun s j => match s with | (at5_7, out6_8, next7_9, t29_10) => upd (upd (upd (upd (upd (upd (j) 0 (.slice b0_1.a b0_1.n b0_1.c : Value)) 5 (.int .i64 at5_7 : Value)) 6 (.slice out6_8.a out6_8.n out6_8.c : Value)) 7 (.int .u64 next7_9 : Value)) 28 (.int .u64 t12_2 : Value)) 29 (.int .u64 t29_10 : Value)) (t12_3, t27_5, 0, 0) ?_ h ?_
      · dsimp only
        refine upd_id ?_ rfl
        refine upd_id ?_ rfl
        refine upd_id ?_ rfl
        refine upd_id ?_ rfl
        refine upd_id ?_ rfl
        refine upd_id ?_ rfl
        rfl
      rintro KN15 next14 hN15 ⟨at5_7, out6_8, next7_9, t29_10⟩ j w_11 h
      unfold F33_l1 at h
      refine y_seq fun K16 hK16 => ?_
      refine y_region ?_
      refine y_k (.bool (decide (t29_10 < t12_2)) : Value) w_11 rfl rfl rfl (by kernel_rfl) ?_
      refine y_nil ?_
      refine y_then (hK16 _ _ ?_)
      refine y_seq fun K17 hK17 => ?_
      refine y_cond (decide (t29_10 < t12_2)) rfl rfl (fun hb34 => ?_) (fun hb34 => ?_)
      · replace h := h.1 (of_decide_eq_true hb34)
        refine y_skip ?_
        refine y_then (hK17 _ _ ?_)
        refine y_seq fun K18 hK18 => ?_
        refine y_block ?_
        refine y_seq fun K20 hK20 => ?_
        refine y_region ?_
        refine y_k (.slice b0_1.a b0_1.n b0_1.c : Value) w_11 rfl rfl rfl (by kernel_rfl) ?_
        refine y_k (.int .i64 at5_7 : Value) w_11 rfl rfl rfl (by kernel_rfl) ?_
        obtain ⟨t34_12, hx21, h⟩ := h
        refine y_v (s := Instr.sliceAt 33 (.slice b0_1.a b0_1.n b0_1.c : Value) (some (.int .i64 at5_7 : Value)) none none) rfl rfl rfl (by kernel_rfl) (hx21) ?_
        refine y_call rfl rfl rfl (by kernel_rfl) (h.mono ?_)
        rintro _ w_15 ⟨t35_13, t35_14, rfl, h⟩
        refine ⟨_, rfl, ?_⟩
        refine y_k (.tuple #[.int .u64 t35_13, .int .i64 t35_14] : Value) w_15 rfl rfl rfl (by kernel_rfl) ?_
        refine y_k (.int .u64 t35_13 : Value) w_15 rfl rfl rfl (by kernel_rfl) ?_
        refine y_k (.int .i64 t35_14 : Value) w_15 rfl rfl rfl (by kernel_rfl) ?_
        refine y_k (.int .u64 t35_13 : Value) w_15 rfl rfl rfl (by kernel_rfl) ?_
        refine y_k (.int .i64 t35_14 : Value) w_15 rfl rfl rfl (by kernel_rfl) ?_
        refine y_nil ?_
        refine y_then (hK20 _ _ ?_)
        refine y_seq fun K22 hK22 => ?_
        refine y_seq fun K23 hK23 => ?_
        refine y_region ?_
        refine y_k (.int .i64 t35_14 : Value) w_15 rfl rfl rfl (by kernel_rfl) ?_
        refine y_k (.bool ((t35_14 == 0)) : Value) w_15 rfl rfl rfl (by kernel_rfl) ?_
        refine y_k (.bool ((t35_14 == 0)) : Value) w_15 rfl rfl rfl (by kernel_rfl) ?_
        refine y_fork ((t35_14 == 0)) (fun hb24 => ?_) (fun hb24 => ?_)
        · replace h := h.1 (eq_of_beq hb24)
          refine y_frame (upd_id (i := 40) (v := .bool true) rfl (congrArg Value.bool hb24)) ?_
          refine y_gno rfl rfl rfl rfl ?_
          refine y_gno rfl rfl rfl rfl ?_
          refine y_k (.bool true : Value) w_15 rfl rfl rfl (by kernel_rfl) ?_
          refine y_k (.bool true : Value) w_15 rfl rfl rfl (by kernel_rfl) ?_
          refine y_gno rfl rfl rfl rfl ?_
          refine y_gno rfl rfl rfl rfl ?_
          refine y_gno rfl rfl rfl rfl ?_
          refine y_gno rfl rfl rfl rfl ?_
          refine y_k (.bool true : Value) w_15 rfl rfl rfl (by kernel_rfl) ?_
          refine y_nil ?_
          refine y_then (hK23 _ _ ?_)
          refine y_cond_t rfl rfl ?_
          refine y_seq fun K25 hK25 => ?_
          refine y_region ?_
          refine y_k (.slice none 0 0 : Value) w_15 rfl rfl rfl (by kernel_rfl) ?_
          refine y_k (.int .i64 0 : Value) w_15 rfl rfl rfl (by kernel_rfl) ?_
          refine y_nil ?_
          refine y_then (hK25 _ _ ?_)
          refine y_ret ?_
          repeat (first | refine e_then_r ?_ | refine e_block_r ?_)
          exact (hQ0 _ _ _ (res2 (v1 := (.slice none 0 0 : Value)) (v2 := (.int .i64 0 : Value)) rfl rfl rfl rfl) ⟨_, _, rfl, h⟩).1
        · replace h := h.2 (beq_eq_false_iff_ne.mp hb24)
          refine y_frame (upd_id (i := 40) (v := .bool false) rfl (congrArg Value.bool hb24)) ?_
          refine y_gyes rfl rfl rfl ?_
          refine y_k (.int .u64 t35_13 : Value) w_15 rfl rfl rfl (by kernel_rfl) ?_
          refine y_gyes rfl rfl rfl ?_
          refine y_k (.bool (decide (t35_13 > 4294967295)) : Value) w_15 rfl rfl rfl (by kernel_rfl) ?_
          refine y_k (.bool (decide (t35_13 > 4294967295)) : Value) w_15 rfl rfl rfl (by kernel_rfl) ?_
          refine y_k (.bool (decide (t35_13 > 4294967295)) : Value) w_15 rfl rfl rfl (by kernel_rfl) ?_
          refine y_fork (decide (t35_13 > 4294967295)) (fun hb26 => ?_) (fun hb26 => ?_)
          · replace h := h.1 (of_decide_eq_true hb26)
            refine y_frame (upd_id (i := 44) (v := .bool true) rfl (congrArg Value.bool hb26)) ?_
            refine y_gno rfl rfl rfl rfl ?_
            refine y_gno rfl rfl rfl rfl ?_
            refine y_gno rfl rfl rfl rfl ?_
            refine y_gno rfl rfl rfl rfl ?_
            refine y_k (.bool true : Value) w_15 rfl rfl rfl (by kernel_rfl) ?_
            refine y_nil ?_
            refine y_then (hK23 _ _ ?_)
            refine y_cond_t rfl rfl ?_
            refine y_seq fun K27 hK27 => ?_
            refine y_region ?_
            refine y_k (.slice none 0 0 : Value) w_15 rfl rfl rfl (by kernel_rfl) ?_
            refine y_k (.int .i64 0 : Value) w_15 rfl rfl rfl (by kernel_rfl) ?_
            refine y_nil ?_
            refine y_then (hK27 _ _ ?_)
            refine y_ret ?_
            repeat (first | refine e_then_r ?_ | refine e_block_r ?_)
            exact (hQ0 _ _ _ (res2 (v1 := (.slice none 0 0 : Value)) (v2 := (.int .i64 0 : Value)) rfl rfl rfl rfl) ⟨_, _, rfl, h⟩).1
          · replace h := h.2 (of_decide_eq_false hb26)
            refine y_frame (upd_id (i := 44) (v := .bool false) rfl (congrArg Value.bool hb26)) ?_
            refine y_gyes rfl rfl rfl ?_
            refine y_k (.int .u64 next7_9 : Value) w_15 rfl rfl rfl (by kernel_rfl) ?_
            refine y_gyes rfl rfl rfl ?_
            refine y_k (.int .u64 t35_13 : Value) w_15 rfl rfl rfl (by kernel_rfl) ?_
            refine y_gyes rfl rfl rfl ?_
            refine y_k (.int .u64 (IntKind.u64.wrap (next7_9 + t35_13)) : Value) w_15 rfl rfl rfl (by kernel_rfl) ?_
            refine y_gyes rfl rfl rfl ?_
            refine y_k (.bool (decide ((IntKind.u64.wrap (next7_9 + t35_13)) > 4294967295)) : Value) w_15 rfl rfl rfl (by kernel_rfl) ?_
            refine y_k (.bool (decide ((IntKind.u64.wrap (next7_9 + t35_13)) > 4294967295)) : Value) w_15 rfl rfl rfl (by kernel_rfl) ?_
            refine y_nil ?_
            refine y_then (hK23 _ _ ?_)
            refine y_cond (decide ((IntKind.u64.wrap (next7_9 + t35_13)) > 4294967295)) rfl rfl (fun hb32 => ?_) (fun hb32 => ?_)
            · replace h := h.1 (of_decide_eq_true hb32)
              refine y_seq fun K28 hK28 => ?_
              refine y_region ?_
              refine y_k (.slice none 0 0 : Value) w_15 rfl rfl rfl (by kernel_rfl) ?_
              refine y_k (.int .i64 0 : Value) w_15 rfl rfl rfl (by kernel_rfl) ?_
              refine y_nil ?_
              refine y_then (hK28 _ _ ?_)
              refine y_ret ?_
              repeat (first | refine e_then_r ?_ | refine e_block_r ?_)
              exact (hQ0 _ _ _ (res2 (v1 := (.slice none 0 0 : Value)) (v2 := (.int .i64 0 : Value)) rfl rfl rfl rfl) ⟨_, _, rfl, h⟩).1
            · replace h := h.2 (of_decide_eq_false hb32)
              refine y_skip ?_
              refine y_then (hK22 _ _ ?_)
              refine y_seq fun K29 hK29 => ?_
              refine y_region ?_
              refine y_k (.int .i64 at5_7 : Value) w_15 rfl rfl rfl (by kernel_rfl) ?_
              refine y_k (.int .i64 t35_14 : Value) w_15 rfl rfl rfl (by kernel_rfl) ?_
              refine y_k (.int .i64 (IntKind.i64.wrap (at5_7 + t35_14)) : Value) w_15 rfl rfl rfl (by kernel_rfl) ?_
              refine y_k (.int .i64 (IntKind.i64.wrap (at5_7 + t35_14)) : Value) w_15 rfl rfl rfl (by kernel_rfl) ?_
              refine y_nil ?_
              refine y_then (hK29 _ _ ?_)
              refine y_seq fun K30 hK30 => ?_
              refine y_region ?_
              refine y_k (.slice out6_8.a out6_8.n out6_8.c : Value) w_15 rfl rfl rfl (by kernel_rfl) ?_
              refine y_k (.int .u64 next7_9 : Value) w_15 rfl rfl rfl (by kernel_rfl) ?_
              refine y_k (.int .u64 t35_13 : Value) w_15 rfl rfl rfl (by kernel_rfl) ?_
              refine y_k (.int .u64 (IntKind.u64.wrap (next7_9 + t35_13)) : Value) w_15 rfl rfl rfl (by kernel_rfl) ?_
              refine y_k (.int .u32 (IntKind.u32.wrap (IntKind.u64.wrap (next7_9 + t35_13))) : Value) w_15 rfl rfl rfl (by kernel_rfl) ?_
              refine y_k (.slice (some ⟨w_15.heap.size, 0, none⟩) 1 1 : Value) (w_15.alloc (.cells #[.int .u32 (IntKind.u32.wrap (IntKind.u64.wrap (next7_9 + t35_13)))] 23)) rfl rfl rfl (by kernel_rfl) ?_
              replace h := h _ rfl
              generalize w_15.alloc (.cells #[.int .u32 (IntKind.u32.wrap (IntKind.u64.wrap (next7_9 + t35_13)))] 23) = w_16 at h ⊢
              obtain ⟨t59_17, w_18, hx31, h⟩ := h
              refine y_v (s := Builtin.append_ #[22, 22] 22 #[.slice out6_8.a out6_8.n out6_8.c, .slice (some ⟨w_15.heap.size, 0, none⟩) 1 1]) rfl rfl rfl (by kernel_rfl) hx31 ?_
              refine y_k (.slice t59_17.a t59_17.n t59_17.c : Value) w_18 rfl rfl rfl (by kernel_rfl) ?_
              refine y_nil ?_
              refine y_then (hK30 _ _ ?_)
              refine y_region ?_
              refine y_k (.int .u64 next7_9 : Value) w_18 rfl rfl rfl (by kernel_rfl) ?_
              refine y_k (.int .u64 t35_13 : Value) w_18 rfl rfl rfl (by kernel_rfl) ?_
              refine y_k (.int .u64 (IntKind.u64.wrap (t35_13 + 1)) : Value) w_18 rfl rfl rfl (by kernel_rfl) ?_
              refine y_k (.int .u64 (IntKind.u64.wrap (next7_9 + (IntKind.u64.wrap (t35_13 + 1)))) : Value) w_18 rfl rfl rfl (by kernel_rfl) ?_
              refine y_k (.int .u64 (IntKind.u64.wrap (next7_9 + (IntKind.u64.wrap (t35_13 + 1)))) : Value) w_18 rfl rfl rfl (by kernel_rfl) ?_
              refine y_nil ?_
              refine e_block_n ?_
              refine y_then (hK18 _ _ ?_)
              refine y_region ?_
              refine y_k (.int .u64 (IntKind.u64.wrap (t29_10 + 1)) : Value) w_18 rfl rfl rfl (by kernel_rfl) ?_
              refine y_k (.int .u64 (IntKind.u64.wrap (t29_10 + 1)) : Value) w_18 rfl rfl rfl (by kernel_rfl) ?_
              refine y_nil ?_
              refine y_then (hN15 (IntKind.i64.wrap (at5_7 + t35_14), t59_17, IntKind.u64.wrap (next7_9 + (IntKind.u64.wrap (t35_13 + 1))), IntKind.u64.wrap (t29_10 + 1)) _ _ h ?_)
              dsimp only
              refine upd_id ?_ rfl
              refine upd_id ?_ rfl
              refine upd_id ?_ rfl
              refine upd_id ?_ rfl
              refine upd_id ?_ rfl
              refine upd_id ?_ rfl
              rfl
      · replace h := h.2 (of_decide_eq_false hb34)
        refine y_exit ?_
        repeat (first | refine e_then_x ?_ | refine e_block_y rfl ?_)
        refine e_block_x ?_
        refine y_then (hK11 _ _ ?_)
        refine y_seq fun K33 hK33 => ?_
        refine y_region ?_
        refine y_k (.slice out6_8.a out6_8.n out6_8.c : Value) w_11 rfl rfl rfl (by kernel_rfl) ?_
        refine y_k (.int .i64 at5_7 : Value) w_11 rfl rfl rfl (by kernel_rfl) ?_
        refine y_k (.slice out6_8.a out6_8.n out6_8.c : Value) w_11 rfl rfl rfl (by kernel_rfl) ?_
        refine y_k (.int .i64 at5_7 : Value) w_11 rfl rfl rfl (by kernel_rfl) ?_
        refine y_nil ?_
        refine y_then (hK33 _ _ ?_)
        refine y_ret ?_
        repeat (first | refine e_then_r ?_ | refine e_block_r ?_)
        exact (hQ0 _ _ _ (res2 (v1 := (.slice out6_8.a out6_8.n out6_8.c : Value)) (v2 := (.int .i64 at5_7 : Value)) rfl rfl rfl rfl) ⟨_, _, rfl, h⟩).1

end Go.Proofs.Ytjgijifankaglaa
