/- Printed by gen.py (own program, wip/): for each Go function a predicate transformer and its soundness. -/
import Derived.Test.YtjgijifankaglaaProg
import Derived.Test.YtjgijifankaglaaST
namespace Go.Proofs.Ytjgijifankaglaa
open Go Go.RowKit Go.Proofs.Ytjgijifankaglaa.SX
set_option linter.unusedVariables false

def F75_j3 (t9_6 : Int) (next17 : (Int × Int) → World → Prop) (n3_8 : Int) (w_9 : World) : Prop :=
  next17 (n3_8, IntKind.i64.wrap (t9_6 + 1)) w_9
def F75_l2 (w_1 : World) (t4_3 : Int) (next6 : (Int) → World → Prop) (next17 : (Int × Int) → World → Prop) : (Int × Int) → World → Prop := fun (n3_5, t9_6) w_7 =>
  ((t9_6 < 8 →
  ((((ibits .and .u32 n3_5 1)) = 1 →
  F75_j3 t9_6 next17 (ibits .xor .u32 (Int.fdiv n3_5 (2 ^ 1)) 3988292384) w_7) ∧
  (¬ ((ibits .and .u32 n3_5 1)) = 1 →
  F75_j3 t9_6 next17 (Int.fdiv n3_5 (2 ^ 1)) w_7))) ∧
  (¬ (t9_6 < 8) →
  (0 : Int) ≤ t4_3 ∧ t4_3 < 256 ∧
  HasCell w_7 ((⟨w_1.heap.size, 0, none⟩ : Addr).add (Int.toNat t4_3)) ∧ ∀ (w_10 : World), w_10 = w_7.setCell ((⟨w_1.heap.size, 0, none⟩ : Addr).add (Int.toNat t4_3)) (.int .u32 n3_5 : Value) →
  next6 (IntKind.i64.wrap (t4_3 + 1)) w_10))
def F75_l1 (K : Value → World → Prop) (w : World) (w_1 : World) (next6 : (Int) → World → Prop) : (Int) → World → Prop := fun (t4_3) w_4 =>
  ((t4_3 < 256 →
  kLoop (F75_l2 w_1 t4_3 next6) (IntKind.u32.wrap t4_3, 0) w_4) ∧
  (¬ (t4_3 < 256) →
  ∃ (t24_11 : Value), (Instr.loadAt 91 (.pointer (some (⟨w_1.heap.size, 0, none⟩ : Addr)))).run Try.prog w_4 = .ok t24_11 w_4 ∧
  ∃ (w_12 : World), (Instr.storeAt 91 (.pointer (some (⟨w.heap.size, 0, none⟩ : Addr))) t24_11).run Try.prog w_4 = .ok () w_12 ∧
  ∃ (r0_13 : Value), (Instr.loadAt 91 (.pointer (some (⟨w.heap.size, 0, none⟩ : Addr)))).run Try.prog w_12 = .ok r0_13 w_12 ∧
  K r0_13 w_12))
/-- turnkey/sum.table -/
def F75  (K : Value → World → Prop) (w : World) : Prop :=
  ∀ (w_1 : World), w_1 = w.alloc (.cells #[.int .u32 0, .int .u32 0, .int .u32 0, .int .u32 0, .int .u32 0, .int .u32 0, .int .u32 0, .int .u32 0, .int .u32 0, .int .u32 0, .int .u32 0, .int .u32 0, .int .u32 0, .int .u32 0, .int .u32 0, .int .u32 0, .int .u32 0, .int .u32 0, .int .u32 0, .int .u32 0, .int .u32 0, .int .u32 0, .int .u32 0, .int .u32 0, .int .u32 0, .int .u32 0, .int .u32 0, .int .u32 0, .int .u32 0, .int .u32 0, .int .u32 0, .int .u32 0, .int .u32 0, .int .u32 0, .int .u32 0, .int .u32 0, .int .u32 0, .int .u32 0, .int .u32 0, .int .u32 0, .int .u32 0, .int .u32 0, .int .u32 0, .int .u32 0, .int .u32 0, .int .u32 0, .int .u32 0, .int .u32 0, .int .u32 0, .int .u32 0, .int .u32 0, .int .u32 0, .int .u32 0, .int .u32 0, .int .u32 0, .int .u32 0, .int .u32 0, .int .u32 0, .int .u32 0, .int .u32 0, .int .u32 0, .int .u32 0, .int .u32 0, .int .u32 0, .int .u32 0, .int .u32 0, .int .u32 0, .int .u32 0, .int .u32 0, .int .u32 0, .int .u32 0, .int .u32 0, .int .u32 0, .int .u32 0, .int .u32 0, .int .u32 0, .int .u32 0, .int .u32 0, .int .u32 0, .int .u32 0, .int .u32 0, .int .u32 0, .int .u32 0, .int .u32 0, .int .u32 0, .int .u32 0, .int .u32 0, .int .u32 0, .int .u32 0, .int .u32 0, .int .u32 0, .int .u32 0, .int .u32 0, .int .u32 0, .int .u32 0, .int .u32 0, .int .u32 0, .int .u32 0, .int .u32 0, .int .u32 0, .int .u32 0, .int .u32 0, .int .u32 0, .int .u32 0, .int .u32 0, .int .u32 0, .int .u32 0, .int .u32 0, .int .u32 0, .int .u32 0, .int .u32 0, .int .u32 0, .int .u32 0, .int .u32 0, .int .u32 0, .int .u32 0, .int .u32 0, .int .u32 0, .int .u32 0, .int .u32 0, .int .u32 0, .int .u32 0, .int .u32 0, .int .u32 0, .int .u32 0, .int .u32 0, .int .u32 0, .int .u32 0, .int .u32 0, .int .u32 0, .int .u32 0, .int .u32 0, .int .u32 0, .int .u32 0, .int .u32 0, .int .u32 0, .int .u32 0, .int .u32 0, .int .u32 0, .int .u32 0, .int .u32 0, .int .u32 0, .int .u32 0, .int .u32 0, .int .u32 0, .int .u32 0, .int .u32 0, .int .u32 0, .int .u32 0, .int .u32 0, .int .u32 0, .int .u32 0, .int .u32 0, .int .u32 0, .int .u32 0, .int .u32 0, .int .u32 0, .int .u32 0, .int .u32 0, .int .u32 0, .int .u32 0, .int .u32 0, .int .u32 0, .int .u32 0, .int .u32 0, .int .u32 0, .int .u32 0, .int .u32 0, .int .u32 0, .int .u32 0, .int .u32 0, .int .u32 0, .int .u32 0, .int .u32 0, .int .u32 0, .int .u32 0, .int .u32 0, .int .u32 0, .int .u32 0, .int .u32 0, .int .u32 0, .int .u32 0, .int .u32 0, .int .u32 0, .int .u32 0, .int .u32 0, .int .u32 0, .int .u32 0, .int .u32 0, .int .u32 0, .int .u32 0, .int .u32 0, .int .u32 0, .int .u32 0, .int .u32 0, .int .u32 0, .int .u32 0, .int .u32 0, .int .u32 0, .int .u32 0, .int .u32 0, .int .u32 0, .int .u32 0, .int .u32 0, .int .u32 0, .int .u32 0, .int .u32 0, .int .u32 0, .int .u32 0, .int .u32 0, .int .u32 0, .int .u32 0, .int .u32 0, .int .u32 0, .int .u32 0, .int .u32 0, .int .u32 0, .int .u32 0, .int .u32 0, .int .u32 0, .int .u32 0, .int .u32 0, .int .u32 0, .int .u32 0, .int .u32 0, .int .u32 0, .int .u32 0, .int .u32 0, .int .u32 0, .int .u32 0, .int .u32 0, .int .u32 0, .int .u32 0, .int .u32 0, .int .u32 0, .int .u32 0, .int .u32 0, .int .u32 0, .int .u32 0, .int .u32 0, .int .u32 0, .int .u32 0, .int .u32 0, .int .u32 0, .int .u32 0, .int .u32 0, .int .u32 0, .int .u32 0, .int .u32 0, .int .u32 0, .int .u32 0, .int .u32 0, .int .u32 0, .int .u32 0, .int .u32 0, .int .u32 0] 91) →
  ∀ (w_2 : World), w_2 = w_1.alloc (.cells #[.int .u32 0, .int .u32 0, .int .u32 0, .int .u32 0, .int .u32 0, .int .u32 0, .int .u32 0, .int .u32 0, .int .u32 0, .int .u32 0, .int .u32 0, .int .u32 0, .int .u32 0, .int .u32 0, .int .u32 0, .int .u32 0, .int .u32 0, .int .u32 0, .int .u32 0, .int .u32 0, .int .u32 0, .int .u32 0, .int .u32 0, .int .u32 0, .int .u32 0, .int .u32 0, .int .u32 0, .int .u32 0, .int .u32 0, .int .u32 0, .int .u32 0, .int .u32 0, .int .u32 0, .int .u32 0, .int .u32 0, .int .u32 0, .int .u32 0, .int .u32 0, .int .u32 0, .int .u32 0, .int .u32 0, .int .u32 0, .int .u32 0, .int .u32 0, .int .u32 0, .int .u32 0, .int .u32 0, .int .u32 0, .int .u32 0, .int .u32 0, .int .u32 0, .int .u32 0, .int .u32 0, .int .u32 0, .int .u32 0, .int .u32 0, .int .u32 0, .int .u32 0, .int .u32 0, .int .u32 0, .int .u32 0, .int .u32 0, .int .u32 0, .int .u32 0, .int .u32 0, .int .u32 0, .int .u32 0, .int .u32 0, .int .u32 0, .int .u32 0, .int .u32 0, .int .u32 0, .int .u32 0, .int .u32 0, .int .u32 0, .int .u32 0, .int .u32 0, .int .u32 0, .int .u32 0, .int .u32 0, .int .u32 0, .int .u32 0, .int .u32 0, .int .u32 0, .int .u32 0, .int .u32 0, .int .u32 0, .int .u32 0, .int .u32 0, .int .u32 0, .int .u32 0, .int .u32 0, .int .u32 0, .int .u32 0, .int .u32 0, .int .u32 0, .int .u32 0, .int .u32 0, .int .u32 0, .int .u32 0, .int .u32 0, .int .u32 0, .int .u32 0, .int .u32 0, .int .u32 0, .int .u32 0, .int .u32 0, .int .u32 0, .int .u32 0, .int .u32 0, .int .u32 0, .int .u32 0, .int .u32 0, .int .u32 0, .int .u32 0, .int .u32 0, .int .u32 0, .int .u32 0, .int .u32 0, .int .u32 0, .int .u32 0, .int .u32 0, .int .u32 0, .int .u32 0, .int .u32 0, .int .u32 0, .int .u32 0, .int .u32 0, .int .u32 0, .int .u32 0, .int .u32 0, .int .u32 0, .int .u32 0, .int .u32 0, .int .u32 0, .int .u32 0, .int .u32 0, .int .u32 0, .int .u32 0, .int .u32 0, .int .u32 0, .int .u32 0, .int .u32 0, .int .u32 0, .int .u32 0, .int .u32 0, .int .u32 0, .int .u32 0, .int .u32 0, .int .u32 0, .int .u32 0, .int .u32 0, .int .u32 0, .int .u32 0, .int .u32 0, .int .u32 0, .int .u32 0, .int .u32 0, .int .u32 0, .int .u32 0, .int .u32 0, .int .u32 0, .int .u32 0, .int .u32 0, .int .u32 0, .int .u32 0, .int .u32 0, .int .u32 0, .int .u32 0, .int .u32 0, .int .u32 0, .int .u32 0, .int .u32 0, .int .u32 0, .int .u32 0, .int .u32 0, .int .u32 0, .int .u32 0, .int .u32 0, .int .u32 0, .int .u32 0, .int .u32 0, .int .u32 0, .int .u32 0, .int .u32 0, .int .u32 0, .int .u32 0, .int .u32 0, .int .u32 0, .int .u32 0, .int .u32 0, .int .u32 0, .int .u32 0, .int .u32 0, .int .u32 0, .int .u32 0, .int .u32 0, .int .u32 0, .int .u32 0, .int .u32 0, .int .u32 0, .int .u32 0, .int .u32 0, .int .u32 0, .int .u32 0, .int .u32 0, .int .u32 0, .int .u32 0, .int .u32 0, .int .u32 0, .int .u32 0, .int .u32 0, .int .u32 0, .int .u32 0, .int .u32 0, .int .u32 0, .int .u32 0, .int .u32 0, .int .u32 0, .int .u32 0, .int .u32 0, .int .u32 0, .int .u32 0, .int .u32 0, .int .u32 0, .int .u32 0, .int .u32 0, .int .u32 0, .int .u32 0, .int .u32 0, .int .u32 0, .int .u32 0, .int .u32 0, .int .u32 0, .int .u32 0, .int .u32 0, .int .u32 0, .int .u32 0, .int .u32 0, .int .u32 0, .int .u32 0, .int .u32 0, .int .u32 0, .int .u32 0, .int .u32 0, .int .u32 0, .int .u32 0, .int .u32 0, .int .u32 0, .int .u32 0, .int .u32 0, .int .u32 0, .int .u32 0, .int .u32 0, .int .u32 0, .int .u32 0] 91) →
  kLoop (F75_l1 K w w_1) (0) w_2
set_option maxHeartbeats 4000000 in
set_option maxRecDepth 20000 in
theorem F75_sound  (K : Value → World → Prop) (w : World) (h : F75  K w) :
    Calls Try.prog 75 #[] w (fun e w1 => ∃ (r0 : Value), e = .returned r0 ∧ K r0 w1) := by
  unfold F75 at h
  refine y_enter (n := 25) (args := []) Try.func75 rfl rfl rfl fun Q0 hQ0 => ?_
  refine y_seq fun K1 hK1 => ?_
  refine y_region ?_
  refine y_k (.pointer (some (⟨w.heap.size, 0, none⟩ : Addr)) : Value) (w.alloc (.cells #[.int .u32 0, .int .u32 0, .int .u32 0, .int .u32 0, .int .u32 0, .int .u32 0, .int .u32 0, .int .u32 0, .int .u32 0, .int .u32 0, .int .u32 0, .int .u32 0, .int .u32 0, .int .u32 0, .int .u32 0, .int .u32 0, .int .u32 0, .int .u32 0, .int .u32 0, .int .u32 0, .int .u32 0, .int .u32 0, .int .u32 0, .int .u32 0, .int .u32 0, .int .u32 0, .int .u32 0, .int .u32 0, .int .u32 0, .int .u32 0, .int .u32 0, .int .u32 0, .int .u32 0, .int .u32 0, .int .u32 0, .int .u32 0, .int .u32 0, .int .u32 0, .int .u32 0, .int .u32 0, .int .u32 0, .int .u32 0, .int .u32 0, .int .u32 0, .int .u32 0, .int .u32 0, .int .u32 0, .int .u32 0, .int .u32 0, .int .u32 0, .int .u32 0, .int .u32 0, .int .u32 0, .int .u32 0, .int .u32 0, .int .u32 0, .int .u32 0, .int .u32 0, .int .u32 0, .int .u32 0, .int .u32 0, .int .u32 0, .int .u32 0, .int .u32 0, .int .u32 0, .int .u32 0, .int .u32 0, .int .u32 0, .int .u32 0, .int .u32 0, .int .u32 0, .int .u32 0, .int .u32 0, .int .u32 0, .int .u32 0, .int .u32 0, .int .u32 0, .int .u32 0, .int .u32 0, .int .u32 0, .int .u32 0, .int .u32 0, .int .u32 0, .int .u32 0, .int .u32 0, .int .u32 0, .int .u32 0, .int .u32 0, .int .u32 0, .int .u32 0, .int .u32 0, .int .u32 0, .int .u32 0, .int .u32 0, .int .u32 0, .int .u32 0, .int .u32 0, .int .u32 0, .int .u32 0, .int .u32 0, .int .u32 0, .int .u32 0, .int .u32 0, .int .u32 0, .int .u32 0, .int .u32 0, .int .u32 0, .int .u32 0, .int .u32 0, .int .u32 0, .int .u32 0, .int .u32 0, .int .u32 0, .int .u32 0, .int .u32 0, .int .u32 0, .int .u32 0, .int .u32 0, .int .u32 0, .int .u32 0, .int .u32 0, .int .u32 0, .int .u32 0, .int .u32 0, .int .u32 0, .int .u32 0, .int .u32 0, .int .u32 0, .int .u32 0, .int .u32 0, .int .u32 0, .int .u32 0, .int .u32 0, .int .u32 0, .int .u32 0, .int .u32 0, .int .u32 0, .int .u32 0, .int .u32 0, .int .u32 0, .int .u32 0, .int .u32 0, .int .u32 0, .int .u32 0, .int .u32 0, .int .u32 0, .int .u32 0, .int .u32 0, .int .u32 0, .int .u32 0, .int .u32 0, .int .u32 0, .int .u32 0, .int .u32 0, .int .u32 0, .int .u32 0, .int .u32 0, .int .u32 0, .int .u32 0, .int .u32 0, .int .u32 0, .int .u32 0, .int .u32 0, .int .u32 0, .int .u32 0, .int .u32 0, .int .u32 0, .int .u32 0, .int .u32 0, .int .u32 0, .int .u32 0, .int .u32 0, .int .u32 0, .int .u32 0, .int .u32 0, .int .u32 0, .int .u32 0, .int .u32 0, .int .u32 0, .int .u32 0, .int .u32 0, .int .u32 0, .int .u32 0, .int .u32 0, .int .u32 0, .int .u32 0, .int .u32 0, .int .u32 0, .int .u32 0, .int .u32 0, .int .u32 0, .int .u32 0, .int .u32 0, .int .u32 0, .int .u32 0, .int .u32 0, .int .u32 0, .int .u32 0, .int .u32 0, .int .u32 0, .int .u32 0, .int .u32 0, .int .u32 0, .int .u32 0, .int .u32 0, .int .u32 0, .int .u32 0, .int .u32 0, .int .u32 0, .int .u32 0, .int .u32 0, .int .u32 0, .int .u32 0, .int .u32 0, .int .u32 0, .int .u32 0, .int .u32 0, .int .u32 0, .int .u32 0, .int .u32 0, .int .u32 0, .int .u32 0, .int .u32 0, .int .u32 0, .int .u32 0, .int .u32 0, .int .u32 0, .int .u32 0, .int .u32 0, .int .u32 0, .int .u32 0, .int .u32 0, .int .u32 0, .int .u32 0, .int .u32 0, .int .u32 0, .int .u32 0, .int .u32 0, .int .u32 0, .int .u32 0, .int .u32 0, .int .u32 0, .int .u32 0, .int .u32 0, .int .u32 0, .int .u32 0, .int .u32 0, .int .u32 0, .int .u32 0, .int .u32 0, .int .u32 0, .int .u32 0, .int .u32 0, .int .u32 0, .int .u32 0, .int .u32 0] 91)) rfl rfl rfl (by kernel_rfl) ?_
  replace h := h _ rfl
  generalize w.alloc (.cells #[.int .u32 0, .int .u32 0, .int .u32 0, .int .u32 0, .int .u32 0, .int .u32 0, .int .u32 0, .int .u32 0, .int .u32 0, .int .u32 0, .int .u32 0, .int .u32 0, .int .u32 0, .int .u32 0, .int .u32 0, .int .u32 0, .int .u32 0, .int .u32 0, .int .u32 0, .int .u32 0, .int .u32 0, .int .u32 0, .int .u32 0, .int .u32 0, .int .u32 0, .int .u32 0, .int .u32 0, .int .u32 0, .int .u32 0, .int .u32 0, .int .u32 0, .int .u32 0, .int .u32 0, .int .u32 0, .int .u32 0, .int .u32 0, .int .u32 0, .int .u32 0, .int .u32 0, .int .u32 0, .int .u32 0, .int .u32 0, .int .u32 0, .int .u32 0, .int .u32 0, .int .u32 0, .int .u32 0, .int .u32 0, .int .u32 0, .int .u32 0, .int .u32 0, .int .u32 0, .int .u32 0, .int .u32 0, .int .u32 0, .int .u32 0, .int .u32 0, .int .u32 0, .int .u32 0, .int .u32 0, .int .u32 0, .int .u32 0, .int .u32 0, .int .u32 0, .int .u32 0, .int .u32 0, .int .u32 0, .int .u32 0, .int .u32 0, .int .u32 0, .int .u32 0, .int .u32 0, .int .u32 0, .int .u32 0, .int .u32 0, .int .u32 0, .int .u32 0, .int .u32 0, .int .u32 0, .int .u32 0, .int .u32 0, .int .u32 0, .int .u32 0, .int .u32 0, .int .u32 0, .int .u32 0, .int .u32 0, .int .u32 0, .int .u32 0, .int .u32 0, .int .u32 0, .int .u32 0, .int .u32 0, .int .u32 0, .int .u32 0, .int .u32 0, .int .u32 0, .int .u32 0, .int .u32 0, .int .u32 0, .int .u32 0, .int .u32 0, .int .u32 0, .int .u32 0, .int .u32 0, .int .u32 0, .int .u32 0, .int .u32 0, .int .u32 0, .int .u32 0, .int .u32 0, .int .u32 0, .int .u32 0, .int .u32 0, .int .u32 0, .int .u32 0, .int .u32 0, .int .u32 0, .int .u32 0, .int .u32 0, .int .u32 0, .int .u32 0, .int .u32 0, .int .u32 0, .int .u32 0, .int .u32 0, .int .u32 0, .int .u32 0, .int .u32 0, .int .u32 0, .int .u32 0, .int .u32 0, .int .u32 0, .int .u32 0, .int .u32 0, .int .u32 0, .int .u32 0, .int .u32 0, .int .u32 0, .int .u32 0, .int .u32 0, .int .u32 0, .int .u32 0, .int .u32 0, .int .u32 0, .int .u32 0, .int .u32 0, .int .u32 0, .int .u32 0, .int .u32 0, .int .u32 0, .int .u32 0, .int .u32 0, .int .u32 0, .int .u32 0, .int .u32 0, .int .u32 0, .int .u32 0, .int .u32 0, .int .u32 0, .int .u32 0, .int .u32 0, .int .u32 0, .int .u32 0, .int .u32 0, .int .u32 0, .int .u32 0, .int .u32 0, .int .u32 0, .int .u32 0, .int .u32 0, .int .u32 0, .int .u32 0, .int .u32 0, .int .u32 0, .int .u32 0, .int .u32 0, .int .u32 0, .int .u32 0, .int .u32 0, .int .u32 0, .int .u32 0, .int .u32 0, .int .u32 0, .int .u32 0, .int .u32 0, .int .u32 0, .int .u32 0, .int .u32 0, .int .u32 0, .int .u32 0, .int .u32 0, .int .u32 0, .int .u32 0, .int .u32 0, .int .u32 0, .int .u32 0, .int .u32 0, .int .u32 0, .int .u32 0, .int .u32 0, .int .u32 0, .int .u32 0, .int .u32 0, .int .u32 0, .int .u32 0, .int .u32 0, .int .u32 0, .int .u32 0, .int .u32 0, .int .u32 0, .int .u32 0, .int .u32 0, .int .u32 0, .int .u32 0, .int .u32 0, .int .u32 0, .int .u32 0, .int .u32 0, .int .u32 0, .int .u32 0, .int .u32 0, .int .u32 0, .int .u32 0, .int .u32 0, .int .u32 0, .int .u32 0, .int .u32 0, .int .u32 0, .int .u32 0, .int .u32 0, .int .u32 0, .int .u32 0, .int .u32 0, .int .u32 0, .int .u32 0, .int .u32 0, .int .u32 0, .int .u32 0, .int .u32 0, .int .u32 0, .int .u32 0, .int .u32 0, .int .u32 0, .int .u32 0, .int .u32 0, .int .u32 0, .int .u32 0, .int .u32 0, .int .u32 0, .int .u32 0, .int .u32 0, .int .u32 0, .int .u32 0, .int .u32 0, .int .u32 0] 91) = w_1 at h ⊢
  refine y_nil ?_
  refine y_then (hK1 _ _ ?_)
  refine y_seq fun K2 hK2 => ?_
  refine y_region ?_
  refine y_k (.pointer (some (⟨w_1.heap.size, 0, none⟩ : Addr)) : Value) (w_1.alloc (.cells #[.int .u32 0, .int .u32 0, .int .u32 0, .int .u32 0, .int .u32 0, .int .u32 0, .int .u32 0, .int .u32 0, .int .u32 0, .int .u32 0, .int .u32 0, .int .u32 0, .int .u32 0, .int .u32 0, .int .u32 0, .int .u32 0, .int .u32 0, .int .u32 0, .int .u32 0, .int .u32 0, .int .u32 0, .int .u32 0, .int .u32 0, .int .u32 0, .int .u32 0, .int .u32 0, .int .u32 0, .int .u32 0, .int .u32 0, .int .u32 0, .int .u32 0, .int .u32 0, .int .u32 0, .int .u32 0, .int .u32 0, .int .u32 0, .int .u32 0, .int .u32 0, .int .u32 0, .int .u32 0, .int .u32 0, .int .u32 0, .int .u32 0, .int .u32 0, .int .u32 0, .int .u32 0, .int .u32 0, .int .u32 0, .int .u32 0, .int .u32 0, .int .u32 0, .int .u32 0, .int .u32 0, .int .u32 0, .int .u32 0, .int .u32 0, .int .u32 0, .int .u32 0, .int .u32 0, .int .u32 0, .int .u32 0, .int .u32 0, .int .u32 0, .int .u32 0, .int .u32 0, .int .u32 0, .int .u32 0, .int .u32 0, .int .u32 0, .int .u32 0, .int .u32 0, .int .u32 0, .int .u32 0, .int .u32 0, .int .u32 0, .int .u32 0, .int .u32 0, .int .u32 0, .int .u32 0, .int .u32 0, .int .u32 0, .int .u32 0, .int .u32 0, .int .u32 0, .int .u32 0, .int .u32 0, .int .u32 0, .int .u32 0, .int .u32 0, .int .u32 0, .int .u32 0, .int .u32 0, .int .u32 0, .int .u32 0, .int .u32 0, .int .u32 0, .int .u32 0, .int .u32 0, .int .u32 0, .int .u32 0, .int .u32 0, .int .u32 0, .int .u32 0, .int .u32 0, .int .u32 0, .int .u32 0, .int .u32 0, .int .u32 0, .int .u32 0, .int .u32 0, .int .u32 0, .int .u32 0, .int .u32 0, .int .u32 0, .int .u32 0, .int .u32 0, .int .u32 0, .int .u32 0, .int .u32 0, .int .u32 0, .int .u32 0, .int .u32 0, .int .u32 0, .int .u32 0, .int .u32 0, .int .u32 0, .int .u32 0, .int .u32 0, .int .u32 0, .int .u32 0, .int .u32 0, .int .u32 0, .int .u32 0, .int .u32 0, .int .u32 0, .int .u32 0, .int .u32 0, .int .u32 0, .int .u32 0, .int .u32 0, .int .u32 0, .int .u32 0, .int .u32 0, .int .u32 0, .int .u32 0, .int .u32 0, .int .u32 0, .int .u32 0, .int .u32 0, .int .u32 0, .int .u32 0, .int .u32 0, .int .u32 0, .int .u32 0, .int .u32 0, .int .u32 0, .int .u32 0, .int .u32 0, .int .u32 0, .int .u32 0, .int .u32 0, .int .u32 0, .int .u32 0, .int .u32 0, .int .u32 0, .int .u32 0, .int .u32 0, .int .u32 0, .int .u32 0, .int .u32 0, .int .u32 0, .int .u32 0, .int .u32 0, .int .u32 0, .int .u32 0, .int .u32 0, .int .u32 0, .int .u32 0, .int .u32 0, .int .u32 0, .int .u32 0, .int .u32 0, .int .u32 0, .int .u32 0, .int .u32 0, .int .u32 0, .int .u32 0, .int .u32 0, .int .u32 0, .int .u32 0, .int .u32 0, .int .u32 0, .int .u32 0, .int .u32 0, .int .u32 0, .int .u32 0, .int .u32 0, .int .u32 0, .int .u32 0, .int .u32 0, .int .u32 0, .int .u32 0, .int .u32 0, .int .u32 0, .int .u32 0, .int .u32 0, .int .u32 0, .int .u32 0, .int .u32 0, .int .u32 0, .int .u32 0, .int .u32 0, .int .u32 0, .int .u32 0, .int .u32 0, .int .u32 0, .int .u32 0, .int .u32 0, .int .u32 0, .int .u32 0, .int .u32 0, .int .u32 0, .int .u32 0, .int .u32 0, .int .u32 0, .int .u32 0, .int .u32 0, .int .u32 0, .int .u32 0, .int .u32 0, .int .u32 0, .int .u32 0, .int .u32 0, .int .u32 0, .int .u32 0, .int .u32 0, .int .u32 0, .int .u32 0, .int .u32 0, .int .u32 0, .int .u32 0, .int .u32 0, .int .u32 0, .int .u32 0, .int .u32 0, .int .u32 0, .int .u32 0, .int .u32 0, .int .u32 0, .int .u32 0, .int .u32 0, .int .u32 0, .int .u32 0, .int .u32 0, .int .u32 0, .int .u32 0] 91)) rfl rfl rfl (by kernel_rfl) ?_
  replace h := h _ rfl
  generalize w_1.alloc (.cells #[.int .u32 0, .int .u32 0, .int .u32 0, .int .u32 0, .int .u32 0, .int .u32 0, .int .u32 0, .int .u32 0, .int .u32 0, .int .u32 0, .int .u32 0, .int .u32 0, .int .u32 0, .int .u32 0, .int .u32 0, .int .u32 0, .int .u32 0, .int .u32 0, .int .u32 0, .int .u32 0, .int .u32 0, .int .u32 0, .int .u32 0, .int .u32 0, .int .u32 0, .int .u32 0, .int .u32 0, .int .u32 0, .int .u32 0, .int .u32 0, .int .u32 0, .int .u32 0, .int .u32 0, .int .u32 0, .int .u32 0, .int .u32 0, .int .u32 0, .int .u32 0, .int .u32 0, .int .u32 0, .int .u32 0, .int .u32 0, .int .u32 0, .int .u32 0, .int .u32 0, .int .u32 0, .int .u32 0, .int .u32 0, .int .u32 0, .int .u32 0, .int .u32 0, .int .u32 0, .int .u32 0, .int .u32 0, .int .u32 0, .int .u32 0, .int .u32 0, .int .u32 0, .int .u32 0, .int .u32 0, .int .u32 0, .int .u32 0, .int .u32 0, .int .u32 0, .int .u32 0, .int .u32 0, .int .u32 0, .int .u32 0, .int .u32 0, .int .u32 0, .int .u32 0, .int .u32 0, .int .u32 0, .int .u32 0, .int .u32 0, .int .u32 0, .int .u32 0, .int .u32 0, .int .u32 0, .int .u32 0, .int .u32 0, .int .u32 0, .int .u32 0, .int .u32 0, .int .u32 0, .int .u32 0, .int .u32 0, .int .u32 0, .int .u32 0, .int .u32 0, .int .u32 0, .int .u32 0, .int .u32 0, .int .u32 0, .int .u32 0, .int .u32 0, .int .u32 0, .int .u32 0, .int .u32 0, .int .u32 0, .int .u32 0, .int .u32 0, .int .u32 0, .int .u32 0, .int .u32 0, .int .u32 0, .int .u32 0, .int .u32 0, .int .u32 0, .int .u32 0, .int .u32 0, .int .u32 0, .int .u32 0, .int .u32 0, .int .u32 0, .int .u32 0, .int .u32 0, .int .u32 0, .int .u32 0, .int .u32 0, .int .u32 0, .int .u32 0, .int .u32 0, .int .u32 0, .int .u32 0, .int .u32 0, .int .u32 0, .int .u32 0, .int .u32 0, .int .u32 0, .int .u32 0, .int .u32 0, .int .u32 0, .int .u32 0, .int .u32 0, .int .u32 0, .int .u32 0, .int .u32 0, .int .u32 0, .int .u32 0, .int .u32 0, .int .u32 0, .int .u32 0, .int .u32 0, .int .u32 0, .int .u32 0, .int .u32 0, .int .u32 0, .int .u32 0, .int .u32 0, .int .u32 0, .int .u32 0, .int .u32 0, .int .u32 0, .int .u32 0, .int .u32 0, .int .u32 0, .int .u32 0, .int .u32 0, .int .u32 0, .int .u32 0, .int .u32 0, .int .u32 0, .int .u32 0, .int .u32 0, .int .u32 0, .int .u32 0, .int .u32 0, .int .u32 0, .int .u32 0, .int .u32 0, .int .u32 0, .int .u32 0, .int .u32 0, .int .u32 0, .int .u32 0, .int .u32 0, .int .u32 0, .int .u32 0, .int .u32 0, .int .u32 0, .int .u32 0, .int .u32 0, .int .u32 0, .int .u32 0, .int .u32 0, .int .u32 0, .int .u32 0, .int .u32 0, .int .u32 0, .int .u32 0, .int .u32 0, .int .u32 0, .int .u32 0, .int .u32 0, .int .u32 0, .int .u32 0, .int .u32 0, .int .u32 0, .int .u32 0, .int .u32 0, .int .u32 0, .int .u32 0, .int .u32 0, .int .u32 0, .int .u32 0, .int .u32 0, .int .u32 0, .int .u32 0, .int .u32 0, .int .u32 0, .int .u32 0, .int .u32 0, .int .u32 0, .int .u32 0, .int .u32 0, .int .u32 0, .int .u32 0, .int .u32 0, .int .u32 0, .int .u32 0, .int .u32 0, .int .u32 0, .int .u32 0, .int .u32 0, .int .u32 0, .int .u32 0, .int .u32 0, .int .u32 0, .int .u32 0, .int .u32 0, .int .u32 0, .int .u32 0, .int .u32 0, .int .u32 0, .int .u32 0, .int .u32 0, .int .u32 0, .int .u32 0, .int .u32 0, .int .u32 0, .int .u32 0, .int .u32 0, .int .u32 0, .int .u32 0, .int .u32 0, .int .u32 0, .int .u32 0, .int .u32 0, .int .u32 0, .int .u32 0, .int .u32 0, .int .u32 0, .int .u32 0, .int .u32 0, .int .u32 0] 91) = w_2 at h ⊢
  refine y_nil ?_
  refine y_then (hK2 _ _ ?_)
  refine y_seq fun K3 hK3 => ?_
  refine y_seq fun K4 hK4 => ?_
  refine y_region ?_
  refine y_k (.int .i64 0 : Value) w_2 rfl rfl rfl (by kernel_rfl) ?_
  refine y_nil ?_
  refine y_then (hK4 _ _ ?_)
  refine y_block ?_
  refine y_loop (S := Int) (fun s j => match s with | (t4_3) => upd (upd (upd (j) 0 (.pointer (some (⟨w.heap.size, 0, none⟩ : Addr)) : Value)) 1 (.pointer (some (⟨w_1.heap.size, 0, none⟩ : Addr)) : Value)) 4 (.int .i64 t4_3 : Value)) (0) ?_ h ?_
  · dsimp only
    refine upd_id ?_ rfl
    refine upd_id ?_ rfl
    refine upd_id ?_ rfl
    rfl
  rintro KN7 next6 hN7 t4_3 j w_4 h
  unfold F75_l1 at h
  refine y_seq fun K8 hK8 => ?_
  refine y_region ?_
  refine y_k (.bool (decide (t4_3 < 256)) : Value) w_4 rfl rfl rfl (by kernel_rfl) ?_
  refine y_nil ?_
  refine y_then (hK8 _ _ ?_)
  refine y_seq fun K9 hK9 => ?_
  refine y_cond (decide (t4_3 < 256)) rfl rfl (fun hb32 => ?_) (fun hb32 => ?_)
  · replace h := h.1 (of_decide_eq_true hb32)
    refine y_skip ?_
    refine y_then (hK9 _ _ ?_)
    refine y_seq fun K10 hK10 => ?_
    refine y_block ?_
    refine y_seq fun K12 hK12 => ?_
    refine y_region ?_
    refine y_k (.int .i64 t4_3 : Value) w_4 rfl rfl rfl (by kernel_rfl) ?_
    refine y_k (.int .i64 t4_3 : Value) w_4 rfl rfl rfl (by kernel_rfl) ?_
    refine y_nil ?_
    refine y_then (hK12 _ _ ?_)
    refine y_seq fun K13 hK13 => ?_
    refine y_region ?_
    refine y_k (.int .i64 t4_3 : Value) w_4 rfl rfl rfl (by kernel_rfl) ?_
    refine y_k (.int .u32 (IntKind.u32.wrap t4_3) : Value) w_4 rfl rfl rfl (by kernel_rfl) ?_
    refine y_k (.int .u32 (IntKind.u32.wrap t4_3) : Value) w_4 rfl rfl rfl (by kernel_rfl) ?_
    refine y_nil ?_
    refine y_then (hK13 _ _ ?_)
    refine y_seq fun K14 hK14 => ?_
    refine y_seq fun K15 hK15 => ?_
    refine y_region ?_
    refine y_k (.int .i64 0 : Value) w_4 rfl rfl rfl (by kernel_rfl) ?_
    refine y_nil ?_
    refine y_then (hK15 _ _ ?_)
    refine y_block ?_
    refine y_loop (S := Int × Int) (fun s j => match s with | (n3_5, t9_6) => upd (upd (upd (upd (upd (upd (j) 0 (.pointer (some (⟨w.heap.size, 0, none⟩ : Addr)) : Value)) 1 (.pointer (some (⟨w_1.heap.size, 0, none⟩ : Addr)) : Value)) 2 (.int .i64 t4_3 : Value)) 3 (.int .u32 n3_5 : Value)) 4 (.int .i64 t4_3 : Value)) 9 (.int .i64 t9_6 : Value)) (IntKind.u32.wrap t4_3, 0) ?_ h ?_
    · dsimp only
      refine upd_id ?_ rfl
      refine upd_id ?_ rfl
      refine upd_id ?_ rfl
      refine upd_id ?_ rfl
      refine upd_id ?_ rfl
      refine upd_id ?_ rfl
      rfl
    rintro KN18 next17 hN18 ⟨n3_5, t9_6⟩ j w_7 h
    unfold F75_l2 at h
    refine y_seq fun K19 hK19 => ?_
    refine y_region ?_
    refine y_k (.bool (decide (t9_6 < 8)) : Value) w_7 rfl rfl rfl (by kernel_rfl) ?_
    refine y_nil ?_
    refine y_then (hK19 _ _ ?_)
    refine y_seq fun K20 hK20 => ?_
    refine y_cond (decide (t9_6 < 8)) rfl rfl (fun hb27 => ?_) (fun hb27 => ?_)
    · replace h := h.1 (of_decide_eq_true hb27)
      refine y_skip ?_
      refine y_then (hK20 _ _ ?_)
      refine y_seq fun K21 hK21 => ?_
      have hjK21 : ∀ (f : Fr) (n3_8 : Int) (w_9 : World), f 0 = (.pointer (some (⟨w.heap.size, 0, none⟩ : Addr)) : Value) → f 1 = (.pointer (some (⟨w_1.heap.size, 0, none⟩ : Addr)) : Value) → f 2 = (.int .i64 t4_3 : Value) → f 3 = (.int .u32 n3_8 : Value) → f 4 = (.int .i64 t4_3 : Value) → f 9 = (.int .i64 t9_6 : Value) → F75_j3 t9_6 next17 n3_8 w_9 → WK K21 25 f w_9 := by
        intro f n3_8 w_9 e0 e1 e2 e3 e4 e9 h
        refine y_atf (upd_id (upd_id (upd_id (upd_id (upd_id (upd_id rfl e0) e1) e2) e3) e4) e9) ?_
        clear e0 e1 e2 e3 e4 e9
        unfold F75_j3 at h
        refine hK21 _ _ ?_
        refine y_region ?_
        refine y_k (.int .i64 (IntKind.i64.wrap (t9_6 + 1)) : Value) w_9 rfl rfl rfl (by kernel_rfl) ?_
        refine y_k (.int .i64 (IntKind.i64.wrap (t9_6 + 1)) : Value) w_9 rfl rfl rfl (by kernel_rfl) ?_
        refine y_nil ?_
        refine y_then (hN18 (n3_8, IntKind.i64.wrap (t9_6 + 1)) _ _ h ?_)
        dsimp only
        refine upd_id ?_ rfl
        refine upd_id ?_ rfl
        refine upd_id ?_ rfl
        refine upd_id ?_ rfl
        refine upd_id ?_ rfl
        refine upd_id ?_ rfl
        rfl
      refine y_block ?_
      refine y_seq fun K23 hK23 => ?_
      refine y_region ?_
      refine y_k (.int .u32 n3_5 : Value) w_7 rfl rfl rfl (by kernel_rfl) ?_
      refine y_k (.int .u32 (ibits .and .u32 n3_5 1) : Value) w_7 rfl rfl rfl (by kernel_rfl) ?_
      refine y_k (.bool ((((ibits .and .u32 n3_5 1)) == 1)) : Value) w_7 rfl rfl rfl (by kernel_rfl) ?_
      refine y_nil ?_
      refine y_then (hK23 _ _ ?_)
      refine y_cond ((((ibits .and .u32 n3_5 1)) == 1)) rfl rfl (fun hb24 => ?_) (fun hb24 => ?_)
      · replace h := h.1 (eq_of_beq hb24)
        refine y_region ?_
        refine y_k (.int .u32 n3_5 : Value) w_7 rfl rfl rfl (by kernel_rfl) ?_
        refine y_k (.int .u32 (Int.fdiv n3_5 (2 ^ 1)) : Value) w_7 rfl rfl rfl (by kernel_rfl) ?_
        refine y_k (.int .u32 (ibits .xor .u32 (Int.fdiv n3_5 (2 ^ 1)) 3988292384) : Value) w_7 rfl rfl rfl (by kernel_rfl) ?_
        refine y_k (.int .u32 (ibits .xor .u32 (Int.fdiv n3_5 (2 ^ 1)) 3988292384) : Value) w_7 rfl rfl rfl (by kernel_rfl) ?_
        refine y_nil ?_
        refine e_block_n ?_
        exact y_then (hjK21 _ (ibits .xor .u32 (Int.fdiv n3_5 (2 ^ 1)) 3988292384) w_7 rfl rfl rfl rfl rfl rfl h)
      · replace h := h.2 (beq_eq_false_iff_ne.mp hb24)
        refine y_region ?_
        refine y_k (.int .u32 n3_5 : Value) w_7 rfl rfl rfl (by kernel_rfl) ?_
        refine y_k (.int .u32 (Int.fdiv n3_5 (2 ^ 1)) : Value) w_7 rfl rfl rfl (by kernel_rfl) ?_
        refine y_k (.int .u32 (Int.fdiv n3_5 (2 ^ 1)) : Value) w_7 rfl rfl rfl (by kernel_rfl) ?_
        refine y_nil ?_
        refine e_block_n ?_
        exact y_then (hjK21 _ (Int.fdiv n3_5 (2 ^ 1)) w_7 rfl rfl rfl rfl rfl rfl h)
    · replace h := h.2 (of_decide_eq_false hb27)
      refine y_exit ?_
      repeat (first | refine e_then_x ?_ | refine e_block_y rfl ?_)
      refine e_block_x ?_
      refine y_then (hK14 _ _ ?_)
      refine y_region ?_
      refine y_k (.int .i64 t4_3 : Value) w_7 rfl rfl rfl (by kernel_rfl) ?_
      refine y_k (.int .u32 n3_5 : Value) w_7 rfl rfl rfl (by kernel_rfl) ?_
      obtain ⟨hx25a, hx25b, h⟩ := h
      refine y_v (v := (.pointer (some ((⟨w_1.heap.size, 0, none⟩ : Addr).add (Int.toNat t4_3))) : Value)) (s := Instr.indexAt 91 (.pointer (some (⟨w_1.heap.size, 0, none⟩ : Addr)) : Value) (.int .i64 t4_3 : Value)) rfl rfl rfl (by kernel_rfl) (run_ixa1 (el := 23) (by kernel_rfl) (by kernel_rfl) hx25a hx25b) ?_
      obtain ⟨hx26, h⟩ := h
      replace h := h _ rfl
      refine y_u (s := Instr.storeAt 23 (.pointer (some ((⟨w_1.heap.size, 0, none⟩ : Addr).add (Int.toNat t4_3)))) (.int .u32 n3_5 : Value)) rfl rfl (by kernel_rfl) (rn_store1 (by kernel_rfl) rfl hx26) ?_
      generalize w_7.setCell ((⟨w_1.heap.size, 0, none⟩ : Addr).add (Int.toNat t4_3)) (.int .u32 n3_5 : Value) = w_10 at h ⊢
      refine y_nil ?_
      refine e_block_n ?_
      refine y_then (hK10 _ _ ?_)
      refine y_region ?_
      refine y_k (.int .i64 (IntKind.i64.wrap (t4_3 + 1)) : Value) w_10 rfl rfl rfl (by kernel_rfl) ?_
      refine y_k (.int .i64 (IntKind.i64.wrap (t4_3 + 1)) : Value) w_10 rfl rfl rfl (by kernel_rfl) ?_
      refine y_nil ?_
      refine y_then (hN7 (IntKind.i64.wrap (t4_3 + 1)) _ _ h ?_)
      dsimp only
      refine upd_id ?_ rfl
      refine upd_id ?_ rfl
      refine upd_id ?_ rfl
      rfl
  · replace h := h.2 (of_decide_eq_false hb32)
    refine y_exit ?_
    repeat (first | refine e_then_x ?_ | refine e_block_y rfl ?_)
    refine e_block_x ?_
    refine y_then (hK3 _ _ ?_)
    refine y_seq fun K28 hK28 => ?_
    refine y_region ?_
    obtain ⟨t24_11, hx29, h⟩ := h
    refine y_v (s := Instr.loadAt 91 (.pointer (some (⟨w_1.heap.size, 0, none⟩ : Addr)))) rfl rfl rfl (by kernel_rfl) (hx29) ?_
    obtain ⟨w_12, hx30, h⟩ := h
    refine y_u (s := Instr.storeAt 91 (.pointer (some (⟨w.heap.size, 0, none⟩ : Addr))) t24_11) rfl rfl (by kernel_rfl) hx30 ?_
    refine y_nil ?_
    refine y_then (hK28 _ _ ?_)
    refine y_ret ?_
    repeat (first | refine e_then_r ?_ | refine e_block_r ?_)
    obtain ⟨r0_13, hx31, h⟩ := h
    exact (hQ0 _ _ _ (rs1 rfl (rs_cell (v := r0_13) (ad := (⟨w.heap.size, 0, none⟩ : Addr)) rfl rfl (hx31))) ⟨_, rfl, h⟩).1

def F40_l1 (b0_1 : Sl) (K : Int → World → Prop) (w_3 : World) (next8 : (Int × Int) → World → Prop) : (Int × Int) → World → Prop := fun (n4_6, t10_7) w_8 =>
  ((t10_7 < ((b0_1.n : Int)) →
  (0 : Int) ≤ t10_7 ∧ t10_7 < (b0_1.n : Int) ∧ ∃ (a_9 : Addr), b0_1.a = some a_9 ∧
  ∃ (t13_10 : Int), w_8.cell? (a_9.add (Int.toNat t10_7)) = some (.int .u8 t13_10) ∧
  (0 : Int) ≤ (ibits .xor .u8 (IntKind.u8.wrap n4_6) t13_10) ∧ (ibits .xor .u8 (IntKind.u8.wrap n4_6) t13_10) < 256 ∧
  ∃ (t21_11 : Int), w_8.cell? ((⟨w_3.heap.size, 0, none⟩ : Addr).add (Int.toNat (ibits .xor .u8 (IntKind.u8.wrap n4_6) t13_10))) = some (.int .u32 t21_11) ∧
  next8 (ibits .xor .u32 (Int.fdiv n4_6 (2 ^ 8)) t21_11, IntKind.i64.wrap (t10_7 + 1)) w_8) ∧
  (¬ (t10_7 < ((b0_1.n : Int))) →
  K (ibits .xor .u32 4294967295 n4_6) w_8))
/-- turnkey/sum.CRC -/
def F40 (b0_1 : Sl) (K : Int → World → Prop) (w : World) : Prop :=
  Calls Try.prog 75 #[] w fun e w_3 => ∃ (t7_2 : Value), e = .returned t7_2 ∧
  ∀ (w_4 : World), w_4 = w_3.alloc (.cells #[.int .u32 0, .int .u32 0, .int .u32 0, .int .u32 0, .int .u32 0, .int .u32 0, .int .u32 0, .int .u32 0, .int .u32 0, .int .u32 0, .int .u32 0, .int .u32 0, .int .u32 0, .int .u32 0, .int .u32 0, .int .u32 0, .int .u32 0, .int .u32 0, .int .u32 0, .int .u32 0, .int .u32 0, .int .u32 0, .int .u32 0, .int .u32 0, .int .u32 0, .int .u32 0, .int .u32 0, .int .u32 0, .int .u32 0, .int .u32 0, .int .u32 0, .int .u32 0, .int .u32 0, .int .u32 0, .int .u32 0, .int .u32 0, .int .u32 0, .int .u32 0, .int .u32 0, .int .u32 0, .int .u32 0, .int .u32 0, .int .u32 0, .int .u32 0, .int .u32 0, .int .u32 0, .int .u32 0, .int .u32 0, .int .u32 0, .int .u32 0, .int .u32 0, .int .u32 0, .int .u32 0, .int .u32 0, .int .u32 0, .int .u32 0, .int .u32 0, .int .u32 0, .int .u32 0, .int .u32 0, .int .u32 0, .int .u32 0, .int .u32 0, .int .u32 0, .int .u32 0, .int .u32 0, .int .u32 0, .int .u32 0, .int .u32 0, .int .u32 0, .int .u32 0, .int .u32 0, .int .u32 0, .int .u32 0, .int .u32 0, .int .u32 0, .int .u32 0, .int .u32 0, .int .u32 0, .int .u32 0, .int .u32 0, .int .u32 0, .int .u32 0, .int .u32 0, .int .u32 0, .int .u32 0, .int .u32 0, .int .u32 0, .int .u32 0, .int .u32 0, .int .u32 0, .int .u32 0, .int .u32 0, .int .u32 0, .int .u32 0, .int .u32 0, .int .u32 0, .int .u32 0, .int .u32 0, .int .u32 0, .int .u32 0, .int .u32 0, .int .u32 0, .int .u32 0, .int .u32 0, .int .u32 0, .int .u32 0, .int .u32 0, .int .u32 0, .int .u32 0, .int .u32 0, .int .u32 0, .int .u32 0, .int .u32 0, .int .u32 0, .int .u32 0, .int .u32 0, .int .u32 0, .int .u32 0, .int .u32 0, .int .u32 0, .int .u32 0, .int .u32 0, .int .u32 0, .int .u32 0, .int .u32 0, .int .u32 0, .int .u32 0, .int .u32 0, .int .u32 0, .int .u32 0, .int .u32 0, .int .u32 0, .int .u32 0, .int .u32 0, .int .u32 0, .int .u32 0, .int .u32 0, .int .u32 0, .int .u32 0, .int .u32 0, .int .u32 0, .int .u32 0, .int .u32 0, .int .u32 0, .int .u32 0, .int .u32 0, .int .u32 0, .int .u32 0, .int .u32 0, .int .u32 0, .int .u32 0, .int .u32 0, .int .u32 0, .int .u32 0, .int .u32 0, .int .u32 0, .int .u32 0, .int .u32 0, .int .u32 0, .int .u32 0, .int .u32 0, .int .u32 0, .int .u32 0, .int .u32 0, .int .u32 0, .int .u32 0, .int .u32 0, .int .u32 0, .int .u32 0, .int .u32 0, .int .u32 0, .int .u32 0, .int .u32 0, .int .u32 0, .int .u32 0, .int .u32 0, .int .u32 0, .int .u32 0, .int .u32 0, .int .u32 0, .int .u32 0, .int .u32 0, .int .u32 0, .int .u32 0, .int .u32 0, .int .u32 0, .int .u32 0, .int .u32 0, .int .u32 0, .int .u32 0, .int .u32 0, .int .u32 0, .int .u32 0, .int .u32 0, .int .u32 0, .int .u32 0, .int .u32 0, .int .u32 0, .int .u32 0, .int .u32 0, .int .u32 0, .int .u32 0, .int .u32 0, .int .u32 0, .int .u32 0, .int .u32 0, .int .u32 0, .int .u32 0, .int .u32 0, .int .u32 0, .int .u32 0, .int .u32 0, .int .u32 0, .int .u32 0, .int .u32 0, .int .u32 0, .int .u32 0, .int .u32 0, .int .u32 0, .int .u32 0, .int .u32 0, .int .u32 0, .int .u32 0, .int .u32 0, .int .u32 0, .int .u32 0, .int .u32 0, .int .u32 0, .int .u32 0, .int .u32 0, .int .u32 0, .int .u32 0, .int .u32 0, .int .u32 0, .int .u32 0, .int .u32 0, .int .u32 0, .int .u32 0, .int .u32 0, .int .u32 0, .int .u32 0, .int .u32 0, .int .u32 0, .int .u32 0, .int .u32 0, .int .u32 0, .int .u32 0, .int .u32 0, .int .u32 0, .int .u32 0, .int .u32 0, .int .u32 0, .int .u32 0, .int .u32 0, .int .u32 0] 91) →
  ∃ (w_5 : World), (Instr.storeAt 91 (.pointer (some (⟨w_3.heap.size, 0, none⟩ : Addr))) t7_2).run Try.prog w_4 = .ok () w_5 ∧
  kLoop (F40_l1 b0_1 K w_3) (4294967295, 0) w_5
set_option maxHeartbeats 4000000 in
set_option maxRecDepth 20000 in
theorem F40_sound (b0_1 : Sl) (K : Int → World → Prop) (w : World) (h : F40 b0_1 K w) :
    Calls Try.prog 40 #[.slice b0_1.a b0_1.n b0_1.c] w (fun e w1 => ∃ (r0 : Int), e = .returned (.int .u32 r0 : Value) ∧ K r0 w1) := by
  unfold F40 at h
  refine y_enter (n := 26) (args := [.slice b0_1.a b0_1.n b0_1.c]) Try.func40 rfl rfl rfl fun Q0 hQ0 => ?_
  refine y_seq fun K1 hK1 => ?_
  refine y_region ?_
  refine y_k (.int .u32 0 : Value) w rfl rfl rfl (by kernel_rfl) ?_
  refine y_nil ?_
  refine y_then (hK1 _ _ ?_)
  refine y_seq fun K2 hK2 => ?_
  refine y_region ?_
  refine y_call rfl rfl rfl (by kernel_rfl) (h.mono ?_)
  rintro _ w_3 ⟨t7_2, rfl, h⟩
  refine ⟨_, rfl, ?_⟩
  refine y_k (.pointer (some (⟨w_3.heap.size, 0, none⟩ : Addr)) : Value) (w_3.alloc (.cells #[.int .u32 0, .int .u32 0, .int .u32 0, .int .u32 0, .int .u32 0, .int .u32 0, .int .u32 0, .int .u32 0, .int .u32 0, .int .u32 0, .int .u32 0, .int .u32 0, .int .u32 0, .int .u32 0, .int .u32 0, .int .u32 0, .int .u32 0, .int .u32 0, .int .u32 0, .int .u32 0, .int .u32 0, .int .u32 0, .int .u32 0, .int .u32 0, .int .u32 0, .int .u32 0, .int .u32 0, .int .u32 0, .int .u32 0, .int .u32 0, .int .u32 0, .int .u32 0, .int .u32 0, .int .u32 0, .int .u32 0, .int .u32 0, .int .u32 0, .int .u32 0, .int .u32 0, .int .u32 0, .int .u32 0, .int .u32 0, .int .u32 0, .int .u32 0, .int .u32 0, .int .u32 0, .int .u32 0, .int .u32 0, .int .u32 0, .int .u32 0, .int .u32 0, .int .u32 0, .int .u32 0, .int .u32 0, .int .u32 0, .int .u32 0, .int .u32 0, .int .u32 0, .int .u32 0, .int .u32 0, .int .u32 0, .int .u32 0, .int .u32 0, .int .u32 0, .int .u32 0, .int .u32 0, .int .u32 0, .int .u32 0, .int .u32 0, .int .u32 0, .int .u32 0, .int .u32 0, .int .u32 0, .int .u32 0, .int .u32 0, .int .u32 0, .int .u32 0, .int .u32 0, .int .u32 0, .int .u32 0, .int .u32 0, .int .u32 0, .int .u32 0, .int .u32 0, .int .u32 0, .int .u32 0, .int .u32 0, .int .u32 0, .int .u32 0, .int .u32 0, .int .u32 0, .int .u32 0, .int .u32 0, .int .u32 0, .int .u32 0, .int .u32 0, .int .u32 0, .int .u32 0, .int .u32 0, .int .u32 0, .int .u32 0, .int .u32 0, .int .u32 0, .int .u32 0, .int .u32 0, .int .u32 0, .int .u32 0, .int .u32 0, .int .u32 0, .int .u32 0, .int .u32 0, .int .u32 0, .int .u32 0, .int .u32 0, .int .u32 0, .int .u32 0, .int .u32 0, .int .u32 0, .int .u32 0, .int .u32 0, .int .u32 0, .int .u32 0, .int .u32 0, .int .u32 0, .int .u32 0, .int .u32 0, .int .u32 0, .int .u32 0, .int .u32 0, .int .u32 0, .int .u32 0, .int .u32 0, .int .u32 0, .int .u32 0, .int .u32 0, .int .u32 0, .int .u32 0, .int .u32 0, .int .u32 0, .int .u32 0, .int .u32 0, .int .u32 0, .int .u32 0, .int .u32 0, .int .u32 0, .int .u32 0, .int .u32 0, .int .u32 0, .int .u32 0, .int .u32 0, .int .u32 0, .int .u32 0, .int .u32 0, .int .u32 0, .int .u32 0, .int .u32 0, .int .u32 0, .int .u32 0, .int .u32 0, .int .u32 0, .int .u32 0, .int .u32 0, .int .u32 0, .int .u32 0, .int .u32 0, .int .u32 0, .int .u32 0, .int .u32 0, .int .u32 0, .int .u32 0, .int .u32 0, .int .u32 0, .int .u32 0, .int .u32 0, .int .u32 0, .int .u32 0, .int .u32 0, .int .u32 0, .int .u32 0, .int .u32 0, .int .u32 0, .int .u32 0, .int .u32 0, .int .u32 0, .int .u32 0, .int .u32 0, .int .u32 0, .int .u32 0, .int .u32 0, .int .u32 0, .int .u32 0, .int .u32 0, .int .u32 0, .int .u32 0, .int .u32 0, .int .u32 0, .int .u32 0, .int .u32 0, .int .u32 0, .int .u32 0, .int .u32 0, .int .u32 0, .int .u32 0, .int .u32 0, .int .u32 0, .int .u32 0, .int .u32 0, .int .u32 0, .int .u32 0, .int .u32 0, .int .u32 0, .int .u32 0, .int .u32 0, .int .u32 0, .int .u32 0, .int .u32 0, .int .u32 0, .int .u32 0, .int .u32 0, .int .u32 0, .int .u32 0, .int .u32 0, .int .u32 0, .int .u32 0, .int .u32 0, .int .u32 0, .int .u32 0, .int .u32 0, .int .u32 0, .int .u32 0, .int .u32 0, .int .u32 0, .int .u32 0, .int .u32 0, .int .u32 0, .int .u32 0, .int .u32 0, .int .u32 0, .int .u32 0, .int .u32 0, .int .u32 0, .int .u32 0, .int .u32 0, .int .u32 0, .int .u32 0, .int .u32 0, .int .u32 0, .int .u32 0, .int .u32 0, .int .u32 0, .int .u32 0, .int .u32 0, .int .u32 0, .int .u32 0, .int .u32 0, .int .u32 0] 91)) rfl rfl rfl (by kernel_rfl) ?_
  replace h := h _ rfl
  generalize w_3.alloc (.cells #[.int .u32 0, .int .u32 0, .int .u32 0, .int .u32 0, .int .u32 0, .int .u32 0, .int .u32 0, .int .u32 0, .int .u32 0, .int .u32 0, .int .u32 0, .int .u32 0, .int .u32 0, .int .u32 0, .int .u32 0, .int .u32 0, .int .u32 0, .int .u32 0, .int .u32 0, .int .u32 0, .int .u32 0, .int .u32 0, .int .u32 0, .int .u32 0, .int .u32 0, .int .u32 0, .int .u32 0, .int .u32 0, .int .u32 0, .int .u32 0, .int .u32 0, .int .u32 0, .int .u32 0, .int .u32 0, .int .u32 0, .int .u32 0, .int .u32 0, .int .u32 0, .int .u32 0, .int .u32 0, .int .u32 0, .int .u32 0, .int .u32 0, .int .u32 0, .int .u32 0, .int .u32 0, .int .u32 0, .int .u32 0, .int .u32 0, .int .u32 0, .int .u32 0, .int .u32 0, .int .u32 0, .int .u32 0, .int .u32 0, .int .u32 0, .int .u32 0, .int .u32 0, .int .u32 0, .int .u32 0, .int .u32 0, .int .u32 0, .int .u32 0, .int .u32 0, .int .u32 0, .int .u32 0, .int .u32 0, .int .u32 0, .int .u32 0, .int .u32 0, .int .u32 0, .int .u32 0, .int .u32 0, .int .u32 0, .int .u32 0, .int .u32 0, .int .u32 0, .int .u32 0, .int .u32 0, .int .u32 0, .int .u32 0, .int .u32 0, .int .u32 0, .int .u32 0, .int .u32 0, .int .u32 0, .int .u32 0, .int .u32 0, .int .u32 0, .int .u32 0, .int .u32 0, .int .u32 0, .int .u32 0, .int .u32 0, .int .u32 0, .int .u32 0, .int .u32 0, .int .u32 0, .int .u32 0, .int .u32 0, .int .u32 0, .int .u32 0, .int .u32 0, .int .u32 0, .int .u32 0, .int .u32 0, .int .u32 0, .int .u32 0, .int .u32 0, .int .u32 0, .int .u32 0, .int .u32 0, .int .u32 0, .int .u32 0, .int .u32 0, .int .u32 0, .int .u32 0, .int .u32 0, .int .u32 0, .int .u32 0, .int .u32 0, .int .u32 0, .int .u32 0, .int .u32 0, .int .u32 0, .int .u32 0, .int .u32 0, .int .u32 0, .int .u32 0, .int .u32 0, .int .u32 0, .int .u32 0, .int .u32 0, .int .u32 0, .int .u32 0, .int .u32 0, .int .u32 0, .int .u32 0, .int .u32 0, .int .u32 0, .int .u32 0, .int .u32 0, .int .u32 0, .int .u32 0, .int .u32 0, .int .u32 0, .int .u32 0, .int .u32 0, .int .u32 0, .int .u32 0, .int .u32 0, .int .u32 0, .int .u32 0, .int .u32 0, .int .u32 0, .int .u32 0, .int .u32 0, .int .u32 0, .int .u32 0, .int .u32 0, .int .u32 0, .int .u32 0, .int .u32 0, .int .u32 0, .int .u32 0, .int .u32 0, .int .u32 0, .int .u32 0, .int .u32 0, .int .u32 0, .int .u32 0, .int .u32 0, .int .u32 0, .int .u32 0, .int .u32 0, .int .u32 0, .int .u32 0, .int .u32 0, .int .u32 0, .int .u32 0, .int .u32 0, .int .u32 0, .int .u32 0, .int .u32 0, .int .u32 0, .int .u32 0, .int .u32 0, .int .u32 0, .int .u32 0, .int .u32 0, .int .u32 0, .int .u32 0, .int .u32 0, .int .u32 0, .int .u32 0, .int .u32 0, .int .u32 0, .int .u32 0, .int .u32 0, .int .u32 0, .int .u32 0, .int .u32 0, .int .u32 0, .int .u32 0, .int .u32 0, .int .u32 0, .int .u32 0, .int .u32 0, .int .u32 0, .int .u32 0, .int .u32 0, .int .u32 0, .int .u32 0, .int .u32 0, .int .u32 0, .int .u32 0, .int .u32 0, .int .u32 0, .int .u32 0, .int .u32 0, .int .u32 0, .int .u32 0, .int .u32 0, .int .u32 0, .int .u32 0, .int .u32 0, .int .u32 0, .int .u32 0, .int .u32 0, .int .u32 0, .int .u32 0, .int .u32 0, .int .u32 0, .int .u32 0, .int .u32 0, .int .u32 0, .int .u32 0, .int .u32 0, .int .u32 0, .int .u32 0, .int .u32 0, .int .u32 0, .int .u32 0, .int .u32 0, .int .u32 0, .int .u32 0, .int .u32 0, .int .u32 0, .int .u32 0, .int .u32 0, .int .u32 0, .int .u32 0, .int .u32 0, .int .u32 0, .int .u32 0, .int .u32 0] 91) = w_4 at h ⊢
  obtain ⟨w_5, hx3, h⟩ := h
  refine y_u (s := Instr.storeAt 91 (.pointer (some (⟨w_3.heap.size, 0, none⟩ : Addr))) t7_2) rfl rfl (by kernel_rfl) hx3 ?_
  refine y_nil ?_
  refine y_then (hK2 _ _ ?_)
  refine y_seq fun K4 hK4 => ?_
  refine y_region ?_
  refine y_k (.int .u32 4294967295 : Value) w_5 rfl rfl rfl (by kernel_rfl) ?_
  refine y_nil ?_
  refine y_then (hK4 _ _ ?_)
  refine y_seq fun K5 hK5 => ?_
  refine y_seq fun K6 hK6 => ?_
  refine y_region ?_
  refine y_k (.slice b0_1.a b0_1.n b0_1.c : Value) w_5 rfl rfl rfl (by kernel_rfl) ?_
  refine y_k (.int .i64 ((b0_1.n : Int)) : Value) w_5 rfl rfl rfl (by kernel_rfl) ?_
  refine y_k (.int .i64 0 : Value) w_5 rfl rfl rfl (by kernel_rfl) ?_
  refine y_nil ?_
  refine y_then (hK6 _ _ ?_)
  refine y_block ?_
  refine y_loop (S := Int × Int) (fun s j => match s with | (n4_6, t10_7) => upd (upd (upd (upd (upd (j) 3 (.pointer (some (⟨w_3.heap.size, 0, none⟩ : Addr)) : Value)) 4 (.int .u32 n4_6 : Value)) 8 (.slice b0_1.a b0_1.n b0_1.c : Value)) 9 (.int .i64 ((b0_1.n : Int)) : Value)) 10 (.int .i64 t10_7 : Value)) (4294967295, 0) ?_ h ?_
  · dsimp only
    refine upd_id ?_ rfl
    refine upd_id ?_ rfl
    refine upd_id ?_ rfl
    refine upd_id ?_ rfl
    refine upd_id ?_ rfl
    rfl
  rintro KN9 next8 hN9 ⟨n4_6, t10_7⟩ j w_8 h
  unfold F40_l1 at h
  refine y_seq fun K10 hK10 => ?_
  refine y_region ?_
  refine y_k (.bool (decide (t10_7 < ((b0_1.n : Int)))) : Value) w_8 rfl rfl rfl (by kernel_rfl) ?_
  refine y_nil ?_
  refine y_then (hK10 _ _ ?_)
  refine y_seq fun K11 hK11 => ?_
  refine y_cond (decide (t10_7 < ((b0_1.n : Int)))) rfl rfl (fun hb20 => ?_) (fun hb20 => ?_)
  · replace h := h.1 (of_decide_eq_true hb20)
    refine y_skip ?_
    refine y_then (hK11 _ _ ?_)
    refine y_seq fun K12 hK12 => ?_
    refine y_block ?_
    refine y_seq fun K14 hK14 => ?_
    refine y_region ?_
    obtain ⟨hx15a, hx15b, a_9, hx15, h⟩ := h
    refine y_v (v := (.pointer (some (a_9.add (Int.toNat t10_7))) : Value)) (s := Instr.indexAt 33 (.slice b0_1.a b0_1.n b0_1.c : Value) (.int .i64 t10_7 : Value)) rfl rfl rfl (by kernel_rfl) (run_ixs1 (el := 5) (by kernel_rfl) (by kernel_rfl) hx15 hx15a hx15b) ?_
    obtain ⟨t13_10, hx16, h⟩ := h
    refine y_v (s := Instr.loadAt 5 (.pointer (some (a_9.add (Int.toNat t10_7))))) rfl rfl rfl (by kernel_rfl) (rn_load (by kernel_rfl) hx16) ?_
    refine y_k (.int .u8 t13_10 : Value) w_8 rfl rfl rfl (by kernel_rfl) ?_
    refine y_nil ?_
    refine y_then (hK14 _ _ ?_)
    refine y_region ?_
    refine y_k (.int .u32 n4_6 : Value) w_8 rfl rfl rfl (by kernel_rfl) ?_
    refine y_k (.int .u32 (Int.fdiv n4_6 (2 ^ 8)) : Value) w_8 rfl rfl rfl (by kernel_rfl) ?_
    refine y_k (.int .u32 n4_6 : Value) w_8 rfl rfl rfl (by kernel_rfl) ?_
    refine y_k (.int .u8 (IntKind.u8.wrap n4_6) : Value) w_8 rfl rfl rfl (by kernel_rfl) ?_
    refine y_k (.int .u8 t13_10 : Value) w_8 rfl rfl rfl (by kernel_rfl) ?_
    refine y_k (.int .u8 (ibits .xor .u8 (IntKind.u8.wrap n4_6) t13_10) : Value) w_8 rfl rfl rfl (by kernel_rfl) ?_
    obtain ⟨hx17a, hx17b, h⟩ := h
    refine y_v (v := (.pointer (some ((⟨w_3.heap.size, 0, none⟩ : Addr).add (Int.toNat (ibits .xor .u8 (IntKind.u8.wrap n4_6) t13_10)))) : Value)) (s := Instr.indexAt 91 (.pointer (some (⟨w_3.heap.size, 0, none⟩ : Addr)) : Value) (.int .u8 (ibits .xor .u8 (IntKind.u8.wrap n4_6) t13_10) : Value)) rfl rfl rfl (by kernel_rfl) (run_ixa1 (el := 23) (by kernel_rfl) (by kernel_rfl) hx17a hx17b) ?_
    obtain ⟨t21_11, hx18, h⟩ := h
    refine y_v (s := Instr.loadAt 23 (.pointer (some ((⟨w_3.heap.size, 0, none⟩ : Addr).add (Int.toNat (ibits .xor .u8 (IntKind.u8.wrap n4_6) t13_10)))))) rfl rfl rfl (by kernel_rfl) (rn_load (by kernel_rfl) hx18) ?_
    refine y_k (.int .u32 (ibits .xor .u32 (Int.fdiv n4_6 (2 ^ 8)) t21_11) : Value) w_8 rfl rfl rfl (by kernel_rfl) ?_
    refine y_k (.int .u32 (ibits .xor .u32 (Int.fdiv n4_6 (2 ^ 8)) t21_11) : Value) w_8 rfl rfl rfl (by kernel_rfl) ?_
    refine y_nil ?_
    refine e_block_n ?_
    refine y_then (hK12 _ _ ?_)
    refine y_region ?_
    refine y_k (.int .i64 (IntKind.i64.wrap (t10_7 + 1)) : Value) w_8 rfl rfl rfl (by kernel_rfl) ?_
    refine y_k (.int .i64 (IntKind.i64.wrap (t10_7 + 1)) : Value) w_8 rfl rfl rfl (by kernel_rfl) ?_
    refine y_nil ?_
    refine y_then (hN9 (ibits .xor .u32 (Int.fdiv n4_6 (2 ^ 8)) t21_11, IntKind.i64.wrap (t10_7 + 1)) _ _ h ?_)
    dsimp only
    refine upd_id ?_ rfl
    refine upd_id ?_ rfl
    refine upd_id ?_ rfl
    refine upd_id ?_ rfl
    refine upd_id ?_ rfl
    rfl
  · replace h := h.2 (of_decide_eq_false hb20)
    refine y_exit ?_
    repeat (first | refine e_then_x ?_ | refine e_block_y rfl ?_)
    refine e_block_x ?_
    refine y_then (hK5 _ _ ?_)
    refine y_seq fun K19 hK19 => ?_
    refine y_region ?_
    refine y_k (.int .u32 n4_6 : Value) w_8 rfl rfl rfl (by kernel_rfl) ?_
    refine y_k (.int .u32 (ibits .xor .u32 4294967295 n4_6) : Value) w_8 rfl rfl rfl (by kernel_rfl) ?_
    refine y_k (.int .u32 (ibits .xor .u32 4294967295 n4_6) : Value) w_8 rfl rfl rfl (by kernel_rfl) ?_
    refine y_nil ?_
    refine y_then (hK19 _ _ ?_)
    refine y_ret ?_
    repeat (first | refine e_then_r ?_ | refine e_block_r ?_)
    exact (hQ0 _ _ _ (res1 (v := (.int .u32 (ibits .xor .u32 4294967295 n4_6) : Value)) rfl rfl rfl) ⟨_, rfl, h⟩).1

def F43_j3 (k5_8 : Int) (next17 : (Int × Int) → World → Prop) (n3_10 : Int) (w_11 : World) : Prop :=
  next17 (n3_10, IntKind.i64.wrap (k5_8 + 1)) w_11
def F43_l2 (i4_3 : Int) (next6 : (Int × Int) → World → Prop) (next17 : (Int × Int) → World → Prop) : (Int × Int) → World → Prop := fun (n3_7, k5_8) w_9 =>
  ((k5_8 < 8 →
  ((((ibits .and .u32 n3_7 1)) = 1 →
  F43_j3 k5_8 next17 (ibits .xor .u32 (Int.fdiv n3_7 (2 ^ 1)) 3988292384) w_9) ∧
  (¬ ((ibits .and .u32 n3_7 1)) = 1 →
  F43_j3 k5_8 next17 (Int.fdiv n3_7 (2 ^ 1)) w_9))) ∧
  (¬ (k5_8 < 8) →
  next6 (n3_7, IntKind.i64.wrap (i4_3 + 1)) w_9))
def F43_l1 (b0_1 : Sl) (K : Int → World → Prop) (next6 : (Int × Int) → World → Prop) : (Int × Int) → World → Prop := fun (n3_2, i4_3) w_4 =>
  ((i4_3 < ((b0_1.n : Int)) →
  (0 : Int) ≤ i4_3 ∧ i4_3 < (b0_1.n : Int) ∧ ∃ (a_5 : Addr), b0_1.a = some a_5 ∧
  ∃ (t17_6 : Int), w_4.cell? (a_5.add (Int.toNat i4_3)) = some (.int .u8 t17_6) ∧
  kLoop (F43_l2 i4_3 next6) (ibits .xor .u32 n3_2 (IntKind.u32.wrap t17_6), 0) w_4) ∧
  (¬ (i4_3 < ((b0_1.n : Int))) →
  K (ibits .xor .u32 4294967295 n3_2) w_4))
/-- turnkey/turnkeyref02.CRC -/
def F43 (b0_1 : Sl) (K : Int → World → Prop) (w : World) : Prop :=
  kLoop (F43_l1 b0_1 K) (4294967295, 0) w
set_option maxHeartbeats 4000000 in
set_option maxRecDepth 20000 in
theorem F43_sound (b0_1 : Sl) (K : Int → World → Prop) (w : World) (h : F43 b0_1 K w) :
    Calls Try.prog 43 #[.slice b0_1.a b0_1.n b0_1.c] w (fun e w1 => ∃ (r0 : Int), e = .returned (.int .u32 r0 : Value) ∧ K r0 w1) := by
  unfold F43 at h
  refine y_enter (n := 34) (args := [.slice b0_1.a b0_1.n b0_1.c]) Try.func43 rfl rfl rfl fun Q0 hQ0 => ?_
  refine y_seq fun K1 hK1 => ?_
  refine y_region ?_
  refine y_k (.int .u32 0 : Value) w rfl rfl rfl (by kernel_rfl) ?_
  refine y_nil ?_
  refine y_then (hK1 _ _ ?_)
  refine y_seq fun K2 hK2 => ?_
  refine y_region ?_
  refine y_k (.int .u32 4294967295 : Value) w rfl rfl rfl (by kernel_rfl) ?_
  refine y_nil ?_
  refine y_then (hK2 _ _ ?_)
  refine y_seq fun K3 hK3 => ?_
  refine y_seq fun K4 hK4 => ?_
  refine y_region ?_
  refine y_k (.int .i64 0 : Value) w rfl rfl rfl (by kernel_rfl) ?_
  refine y_nil ?_
  refine y_then (hK4 _ _ ?_)
  refine y_block ?_
  refine y_loop (S := Int × Int) (fun s j => match s with | (n3_2, i4_3) => upd (upd (upd (j) 0 (.slice b0_1.a b0_1.n b0_1.c : Value)) 3 (.int .u32 n3_2 : Value)) 4 (.int .i64 i4_3 : Value)) (4294967295, 0) ?_ h ?_
  · dsimp only
    refine upd_id ?_ rfl
    refine upd_id ?_ rfl
    refine upd_id ?_ rfl
    rfl
  rintro KN7 next6 hN7 ⟨n3_2, i4_3⟩ j w_4 h
  unfold F43_l1 at h
  refine y_seq fun K8 hK8 => ?_
  refine y_seq fun K9 hK9 => ?_
  refine y_region ?_
  refine y_k (.int .i64 i4_3 : Value) w_4 rfl rfl rfl (by kernel_rfl) ?_
  refine y_k (.slice b0_1.a b0_1.n b0_1.c : Value) w_4 rfl rfl rfl (by kernel_rfl) ?_
  refine y_k (.int .i64 ((b0_1.n : Int)) : Value) w_4 rfl rfl rfl (by kernel_rfl) ?_
  refine y_k (.bool (decide (i4_3 < ((b0_1.n : Int)))) : Value) w_4 rfl rfl rfl (by kernel_rfl) ?_
  refine y_nil ?_
  refine y_then (hK9 _ _ ?_)
  refine y_cond (decide (i4_3 < ((b0_1.n : Int)))) rfl rfl (fun hb29 => ?_) (fun hb29 => ?_)
  · replace h := h.1 (of_decide_eq_true hb29)
    refine y_skip ?_
    refine y_then (hK8 _ _ ?_)
    refine y_seq fun K10 hK10 => ?_
    refine y_block ?_
    refine y_seq fun K12 hK12 => ?_
    refine y_region ?_
    refine y_k (.int .u32 n3_2 : Value) w_4 rfl rfl rfl (by kernel_rfl) ?_
    refine y_k (.slice b0_1.a b0_1.n b0_1.c : Value) w_4 rfl rfl rfl (by kernel_rfl) ?_
    refine y_k (.int .i64 i4_3 : Value) w_4 rfl rfl rfl (by kernel_rfl) ?_
    obtain ⟨hx13a, hx13b, a_5, hx13, h⟩ := h
    refine y_v (v := (.pointer (some (a_5.add (Int.toNat i4_3))) : Value)) (s := Instr.indexAt 33 (.slice b0_1.a b0_1.n b0_1.c : Value) (.int .i64 i4_3 : Value)) rfl rfl rfl (by kernel_rfl) (run_ixs1 (el := 5) (by kernel_rfl) (by kernel_rfl) hx13 hx13a hx13b) ?_
    obtain ⟨t17_6, hx14, h⟩ := h
    refine y_v (s := Instr.loadAt 5 (.pointer (some (a_5.add (Int.toNat i4_3))))) rfl rfl rfl (by kernel_rfl) (rn_load (by kernel_rfl) hx14) ?_
    refine y_k (.int .u32 (IntKind.u32.wrap t17_6) : Value) w_4 rfl rfl rfl (by kernel_rfl) ?_
    refine y_k (.int .u32 (ibits .xor .u32 n3_2 (IntKind.u32.wrap t17_6)) : Value) w_4 rfl rfl rfl (by kernel_rfl) ?_
    refine y_k (.int .u32 (ibits .xor .u32 n3_2 (IntKind.u32.wrap t17_6)) : Value) w_4 rfl rfl rfl (by kernel_rfl) ?_
    refine y_nil ?_
    refine y_then (hK12 _ _ ?_)
    refine y_seq fun K15 hK15 => ?_
    refine y_region ?_
    refine y_k (.int .i64 0 : Value) w_4 rfl rfl rfl (by kernel_rfl) ?_
    refine y_nil ?_
    refine y_then (hK15 _ _ ?_)
    refine y_block ?_
    refine y_loop (S := Int × Int) (fun s j => match s with | (n3_7, k5_8) => upd (upd (upd (upd (j) 0 (.slice b0_1.a b0_1.n b0_1.c : Value)) 3 (.int .u32 n3_7 : Value)) 4 (.int .i64 i4_3 : Value)) 5 (.int .i64 k5_8 : Value)) (ibits .xor .u32 n3_2 (IntKind.u32.wrap t17_6), 0) ?_ h ?_
    · dsimp only
      refine upd_id ?_ rfl
      refine upd_id ?_ rfl
      refine upd_id ?_ rfl
      refine upd_id ?_ rfl
      rfl
    rintro KN18 next17 hN18 ⟨n3_7, k5_8⟩ j w_9 h
    unfold F43_l2 at h
    refine y_seq fun K19 hK19 => ?_
    refine y_seq fun K20 hK20 => ?_
    refine y_region ?_
    refine y_k (.int .i64 k5_8 : Value) w_9 rfl rfl rfl (by kernel_rfl) ?_
    refine y_k (.bool (decide (k5_8 < 8)) : Value) w_9 rfl rfl rfl (by kernel_rfl) ?_
    refine y_nil ?_
    refine y_then (hK20 _ _ ?_)
    refine y_cond (decide (k5_8 < 8)) rfl rfl (fun hb27 => ?_) (fun hb27 => ?_)
    · replace h := h.1 (of_decide_eq_true hb27)
      refine y_skip ?_
      refine y_then (hK19 _ _ ?_)
      refine y_seq fun K21 hK21 => ?_
      have hjK21 : ∀ (f : Fr) (n3_10 : Int) (w_11 : World), f 0 = (.slice b0_1.a b0_1.n b0_1.c : Value) → f 3 = (.int .u32 n3_10 : Value) → f 4 = (.int .i64 i4_3 : Value) → f 5 = (.int .i64 k5_8 : Value) → F43_j3 k5_8 next17 n3_10 w_11 → WK K21 34 f w_11 := by
        intro f n3_10 w_11 e0 e3 e4 e5 h
        refine y_atf (upd_id (upd_id (upd_id (upd_id rfl e0) e3) e4) e5) ?_
        clear e0 e3 e4 e5
        unfold F43_j3 at h
        refine hK21 _ _ ?_
        refine y_region ?_
        refine y_k (.int .i64 k5_8 : Value) w_11 rfl rfl rfl (by kernel_rfl) ?_
        refine y_k (.int .i64 (IntKind.i64.wrap (k5_8 + 1)) : Value) w_11 rfl rfl rfl (by kernel_rfl) ?_
        refine y_k (.int .i64 (IntKind.i64.wrap (k5_8 + 1)) : Value) w_11 rfl rfl rfl (by kernel_rfl) ?_
        refine y_nil ?_
        refine y_then (hN18 (n3_10, IntKind.i64.wrap (k5_8 + 1)) _ _ h ?_)
        dsimp only
        refine upd_id ?_ rfl
        refine upd_id ?_ rfl
        refine upd_id ?_ rfl
        refine upd_id ?_ rfl
        rfl
      refine y_block ?_
      refine y_seq fun K23 hK23 => ?_
      refine y_region ?_
      refine y_k (.int .u32 n3_7 : Value) w_9 rfl rfl rfl (by kernel_rfl) ?_
      refine y_k (.int .u32 (ibits .and .u32 n3_7 1) : Value) w_9 rfl rfl rfl (by kernel_rfl) ?_
      refine y_k (.int .u32 (ibits .and .u32 n3_7 1) : Value) w_9 rfl rfl rfl (by kernel_rfl) ?_
      refine y_nil ?_
      refine y_then (hK23 _ _ ?_)
      refine y_seq fun K24 hK24 => ?_
      refine y_region ?_
      refine y_k (.int .u32 n3_7 : Value) w_9 rfl rfl rfl (by kernel_rfl) ?_
      refine y_k (.int .u32 (Int.fdiv n3_7 (2 ^ 1)) : Value) w_9 rfl rfl rfl (by kernel_rfl) ?_
      refine y_k (.int .u32 (Int.fdiv n3_7 (2 ^ 1)) : Value) w_9 rfl rfl rfl (by kernel_rfl) ?_
      refine y_nil ?_
      refine y_then (hK24 _ _ ?_)
      refine y_seq fun K25 hK25 => ?_
      refine y_region ?_
      refine y_k (.int .u32 (ibits .and .u32 n3_7 1) : Value) w_9 rfl rfl rfl (by kernel_rfl) ?_
      refine y_k (.bool ((((ibits .and .u32 n3_7 1)) == 1)) : Value) w_9 rfl rfl rfl (by kernel_rfl) ?_
      refine y_nil ?_
      refine y_then (hK25 _ _ ?_)
      refine y_cond ((((ibits .and .u32 n3_7 1)) == 1)) rfl rfl (fun hb26 => ?_) (fun hb26 => ?_)
      · replace h := h.1 (eq_of_beq hb26)
        refine y_region ?_
        refine y_k (.int .u32 (Int.fdiv n3_7 (2 ^ 1)) : Value) w_9 rfl rfl rfl (by kernel_rfl) ?_
        refine y_k (.int .u32 (ibits .xor .u32 (Int.fdiv n3_7 (2 ^ 1)) 3988292384) : Value) w_9 rfl rfl rfl (by kernel_rfl) ?_
        refine y_k (.int .u32 (ibits .xor .u32 (Int.fdiv n3_7 (2 ^ 1)) 3988292384) : Value) w_9 rfl rfl rfl (by kernel_rfl) ?_
        refine y_nil ?_
        refine e_block_n ?_
        exact y_then (hjK21 _ (ibits .xor .u32 (Int.fdiv n3_7 (2 ^ 1)) 3988292384) w_9 rfl rfl rfl rfl h)
      · replace h := h.2 (beq_eq_false_iff_ne.mp hb26)
        refine y_skip ?_
        refine e_block_n ?_
        exact y_then (hjK21 _ (Int.fdiv n3_7 (2 ^ 1)) w_9 rfl rfl rfl rfl h)
    · replace h := h.2 (of_decide_eq_false hb27)
      refine y_exit ?_
      repeat (first | refine e_then_x ?_ | refine e_block_y rfl ?_)
      refine e_block_x ?_
      refine e_block_n ?_
      refine y_then (hK10 _ _ ?_)
      refine y_region ?_
      refine y_k (.int .i64 i4_3 : Value) w_9 rfl rfl rfl (by kernel_rfl) ?_
      refine y_k (.int .i64 (IntKind.i64.wrap (i4_3 + 1)) : Value) w_9 rfl rfl rfl (by kernel_rfl) ?_
      refine y_k (.int .i64 (IntKind.i64.wrap (i4_3 + 1)) : Value) w_9 rfl rfl rfl (by kernel_rfl) ?_
      refine y_nil ?_
      refine y_then (hN7 (n3_7, IntKind.i64.wrap (i4_3 + 1)) _ _ h ?_)
      dsimp only
      refine upd_id ?_ rfl
      refine upd_id ?_ rfl
      refine upd_id ?_ rfl
      rfl
  · replace h := h.2 (of_decide_eq_false hb29)
    refine y_exit ?_
    repeat (first | refine e_then_x ?_ | refine e_block_y rfl ?_)
    refine e_block_x ?_
    refine y_then (hK3 _ _ ?_)
    refine y_seq fun K28 hK28 => ?_
    refine y_region ?_
    refine y_k (.int .u32 n3_2 : Value) w_4 rfl rfl rfl (by kernel_rfl) ?_
    refine y_k (.int .u32 (ibits .xor .u32 4294967295 n3_2) : Value) w_4 rfl rfl rfl (by kernel_rfl) ?_
    refine y_k (.int .u32 (ibits .xor .u32 4294967295 n3_2) : Value) w_4 rfl rfl rfl (by kernel_rfl) ?_
    refine y_nil ?_
    refine y_then (hK28 _ _ ?_)
    refine y_ret ?_
    repeat (first | refine e_then_r ?_ | refine e_block_r ?_)
    exact (hQ0 _ _ _ (res1 (v := (.int .u32 (ibits .xor .u32 4294967295 n3_2) : Value)) rfl rfl rfl) ⟨_, rfl, h⟩).1

def F39_l1 (K : Sl → World → Prop) (t8_2 : Sl) (next9 : (Int) → World → Prop) : (Int) → World → Prop := fun (i4_6) w_7 =>
  ((i4_6 < ((t8_2.n : Int)) →
  (0 : Int) ≤ i4_6 ∧ i4_6 < (t8_2.n : Int) ∧ ∃ (a_8 : Addr), t8_2.a = some a_8 ∧
  HasCell w_7 (a_8.add (Int.toNat i4_6)) ∧ ∀ (w_9 : World), w_9 = w_7.setCell (a_8.add (Int.toNat i4_6)) (.int .u8 201 : Value) →
  next9 (IntKind.i64.wrap (i4_6 + 1)) w_9) ∧
  (¬ (i4_6 < ((t8_2.n : Int))) →
  K t8_2 w_7))
/-- turnkey/turnkeylaw02.lent -/
def F39 (b0_1 : Sl) (K : Sl → World → Prop) (w : World) : Prop :=
  ∃ (t8_2 : Sl), ∃ (w_3 : World), (Instr.makeSlice 33 (.int .i64 (IntKind.i64.wrap (((b0_1.n : Int)) + 8)) : Value) (.int .i64 (IntKind.i64.wrap (((b0_1.n : Int)) + 8)) : Value)).run Try.prog w = .ok (.slice t8_2.a t8_2.n t8_2.c : Value) w_3 ∧
  ∃ (t11_4 : Int), ∃ (w_5 : World), (Builtin.copy_ #[33, 33] 3 #[.slice t8_2.a t8_2.n t8_2.c, .slice b0_1.a b0_1.n b0_1.c]).run Try.prog w_3 = .ok (.int .i64 t11_4 : Value) w_5 ∧
  kLoop (F39_l1 K t8_2) ((b0_1.n : Int)) w_5
set_option maxHeartbeats 4000000 in
set_option maxRecDepth 20000 in
theorem F39_sound (b0_1 : Sl) (K : Sl → World → Prop) (w : World) (h : F39 b0_1 K w) :
    Calls Try.prog 39 #[.slice b0_1.a b0_1.n b0_1.c] w (fun e w1 => ∃ (r0 : Sl), e = .returned (.slice r0.a r0.n r0.c : Value) ∧ K r0 w1) := by
  unfold F39 at h
  refine y_enter (n := 24) (args := [.slice b0_1.a b0_1.n b0_1.c]) Try.func39 rfl rfl rfl fun Q0 hQ0 => ?_
  refine y_seq fun K1 hK1 => ?_
  refine y_region ?_
  refine y_k (.slice none 0 0 : Value) w rfl rfl rfl (by kernel_rfl) ?_
  refine y_nil ?_
  refine y_then (hK1 _ _ ?_)
  refine y_seq fun K2 hK2 => ?_
  refine y_region ?_
  refine y_k (.slice b0_1.a b0_1.n b0_1.c : Value) w rfl rfl rfl (by kernel_rfl) ?_
  refine y_k (.int .i64 ((b0_1.n : Int)) : Value) w rfl rfl rfl (by kernel_rfl) ?_
  refine y_k (.int .i64 (IntKind.i64.wrap (((b0_1.n : Int)) + 8)) : Value) w rfl rfl rfl (by kernel_rfl) ?_
  obtain ⟨t8_2, w_3, hx3, h⟩ := h
  refine y_v (s := Instr.makeSlice 33 (.int .i64 (IntKind.i64.wrap (((b0_1.n : Int)) + 8)) : Value) (.int .i64 (IntKind.i64.wrap (((b0_1.n : Int)) + 8)) : Value)) rfl rfl rfl (by kernel_rfl) hx3 ?_
  refine y_k (.slice t8_2.a t8_2.n t8_2.c : Value) w_3 rfl rfl rfl (by kernel_rfl) ?_
  refine y_nil ?_
  refine y_then (hK2 _ _ ?_)
  refine y_seq fun K4 hK4 => ?_
  refine y_region ?_
  refine y_k (.slice t8_2.a t8_2.n t8_2.c : Value) w_3 rfl rfl rfl (by kernel_rfl) ?_
  refine y_k (.slice b0_1.a b0_1.n b0_1.c : Value) w_3 rfl rfl rfl (by kernel_rfl) ?_
  obtain ⟨t11_4, w_5, hx5, h⟩ := h
  refine y_v (s := Builtin.copy_ #[33, 33] 3 #[.slice t8_2.a t8_2.n t8_2.c, .slice b0_1.a b0_1.n b0_1.c]) rfl rfl rfl (by kernel_rfl) hx5 ?_
  refine y_nil ?_
  refine y_then (hK4 _ _ ?_)
  refine y_seq fun K6 hK6 => ?_
  refine y_seq fun K7 hK7 => ?_
  refine y_region ?_
  refine y_k (.slice b0_1.a b0_1.n b0_1.c : Value) w_5 rfl rfl rfl (by kernel_rfl) ?_
  refine y_k (.int .i64 ((b0_1.n : Int)) : Value) w_5 rfl rfl rfl (by kernel_rfl) ?_
  refine y_k (.int .i64 ((b0_1.n : Int)) : Value) w_5 rfl rfl rfl (by kernel_rfl) ?_
  refine y_nil ?_
  refine y_then (hK7 _ _ ?_)
  refine y_block ?_
  refine y_loop (S := Int) (fun s j => match s with | (i4_6) => upd (upd (j) 3 (.slice t8_2.a t8_2.n t8_2.c : Value)) 4 (.int .i64 i4_6 : Value)) ((b0_1.n : Int)) ?_ h ?_
  · dsimp only
    refine upd_id ?_ rfl
    refine upd_id ?_ rfl
    rfl
  rintro KN10 next9 hN10 i4_6 j w_7 h
  unfold F39_l1 at h
  refine y_seq fun K11 hK11 => ?_
  refine y_seq fun K12 hK12 => ?_
  refine y_region ?_
  refine y_k (.int .i64 i4_6 : Value) w_7 rfl rfl rfl (by kernel_rfl) ?_
  refine y_k (.slice t8_2.a t8_2.n t8_2.c : Value) w_7 rfl rfl rfl (by kernel_rfl) ?_
  refine y_k (.int .i64 ((t8_2.n : Int)) : Value) w_7 rfl rfl rfl (by kernel_rfl) ?_
  refine y_k (.bool (decide (i4_6 < ((t8_2.n : Int)))) : Value) w_7 rfl rfl rfl (by kernel_rfl) ?_
  refine y_nil ?_
  refine y_then (hK12 _ _ ?_)
  refine y_cond (decide (i4_6 < ((t8_2.n : Int)))) rfl rfl (fun hb18 => ?_) (fun hb18 => ?_)
  · replace h := h.1 (of_decide_eq_true hb18)
    refine y_skip ?_
    refine y_then (hK11 _ _ ?_)
    refine y_seq fun K13 hK13 => ?_
    refine y_block ?_
    refine y_region ?_
    refine y_k (.slice t8_2.a t8_2.n t8_2.c : Value) w_7 rfl rfl rfl (by kernel_rfl) ?_
    refine y_k (.int .i64 i4_6 : Value) w_7 rfl rfl rfl (by kernel_rfl) ?_
    obtain ⟨hx15a, hx15b, a_8, hx15, h⟩ := h
    refine y_v (v := (.pointer (some (a_8.add (Int.toNat i4_6))) : Value)) (s := Instr.indexAt 33 (.slice t8_2.a t8_2.n t8_2.c : Value) (.int .i64 i4_6 : Value)) rfl rfl rfl (by kernel_rfl) (run_ixs1 (el := 5) (by kernel_rfl) (by kernel_rfl) hx15 hx15a hx15b) ?_
    obtain ⟨hx16, h⟩ := h
    replace h := h _ rfl
    refine y_u (s := Instr.storeAt 5 (.pointer (some (a_8.add (Int.toNat i4_6)))) (.int .u8 201 : Value)) rfl rfl (by kernel_rfl) (rn_store1 (by kernel_rfl) rfl hx16) ?_
    generalize w_7.setCell (a_8.add (Int.toNat i4_6)) (.int .u8 201 : Value) = w_9 at h ⊢
    refine y_nil ?_
    refine e_block_n ?_
    refine y_then (hK13 _ _ ?_)
    refine y_region ?_
    refine y_k (.int .i64 i4_6 : Value) w_9 rfl rfl rfl (by kernel_rfl) ?_
    refine y_k (.int .i64 (IntKind.i64.wrap (i4_6 + 1)) : Value) w_9 rfl rfl rfl (by kernel_rfl) ?_
    refine y_k (.int .i64 (IntKind.i64.wrap (i4_6 + 1)) : Value) w_9 rfl rfl rfl (by kernel_rfl) ?_
    refine y_nil ?_
    refine y_then (hN10 (IntKind.i64.wrap (i4_6 + 1)) _ _ h ?_)
    dsimp only
    refine upd_id ?_ rfl
    refine upd_id ?_ rfl
    rfl
  · replace h := h.2 (of_decide_eq_false hb18)
    refine y_exit ?_
    repeat (first | refine e_then_x ?_ | refine e_block_y rfl ?_)
    refine e_block_x ?_
    refine y_then (hK6 _ _ ?_)
    refine y_seq fun K17 hK17 => ?_
    refine y_region ?_
    refine y_k (.slice t8_2.a t8_2.n t8_2.c : Value) w_7 rfl rfl rfl (by kernel_rfl) ?_
    refine y_k (.slice t8_2.a t8_2.n t8_2.c : Value) w_7 rfl rfl rfl (by kernel_rfl) ?_
    refine y_nil ?_
    refine y_then (hK17 _ _ ?_)
    refine y_ret ?_
    repeat (first | refine e_then_r ?_ | refine e_block_r ?_)
    exact (hQ0 _ _ _ (res1 (v := (.slice t8_2.a t8_2.n t8_2.c : Value)) rfl rfl rfl) ⟨_, rfl, h⟩).1

def F42_l1 (l0_1 : Sl) (b1_2 : Sl) (K : Bool → World → Prop) (next5 : (Int) → World → Prop) : (Int) → World → Prop := fun (i5_3) w_4 =>
  ((i5_3 < ((l0_1.n : Int)) →
  ((i5_3 < ((b1_2.n : Int)) →
  (0 : Int) ≤ i5_3 ∧ i5_3 < (l0_1.n : Int) ∧ ∃ (a_5 : Addr), l0_1.a = some a_5 ∧
  ∃ (t20_6 : Int), w_4.cell? (a_5.add (Int.toNat i5_3)) = some (.int .u8 t20_6) ∧
  (0 : Int) ≤ i5_3 ∧ i5_3 < (b1_2.n : Int) ∧ ∃ (a_7 : Addr), b1_2.a = some a_7 ∧
  ∃ (t24_8 : Int), w_4.cell? (a_7.add (Int.toNat i5_3)) = some (.int .u8 t24_8) ∧
  ((¬ t20_6 = t24_8 →
  ∀ (w_9 : World), (∃ m, w_9 = w_4.drewN m) →
  K false w_9) ∧
  (t20_6 = t24_8 →
  ((i5_3 ≥ ((b1_2.n : Int)) →
  (0 : Int) ≤ i5_3 ∧ i5_3 < (l0_1.n : Int) ∧ ∃ (a_10 : Addr), l0_1.a = some a_10 ∧
  ∃ (t36_11 : Int), w_4.cell? (a_10.add (Int.toNat i5_3)) = some (.int .u8 t36_11) ∧
  ∀ (w_12 : World), (∃ m, w_12 = w_4.drewN m) →
  ((¬ t36_11 = 201 →
  K false w_12) ∧
  (t36_11 = 201 →
  next5 (IntKind.i64.wrap (i5_3 + 1)) w_12))) ∧
  (¬ (i5_3 ≥ ((b1_2.n : Int))) →
  ∀ (w_13 : World), (∃ m, w_13 = w_4.drewN m) →
  next5 (IntKind.i64.wrap (i5_3 + 1)) w_13))))) ∧
  (¬ (i5_3 < ((b1_2.n : Int))) →
  ((i5_3 ≥ ((b1_2.n : Int)) →
  (0 : Int) ≤ i5_3 ∧ i5_3 < (l0_1.n : Int) ∧ ∃ (a_14 : Addr), l0_1.a = some a_14 ∧
  ∃ (t36_15 : Int), w_4.cell? (a_14.add (Int.toNat i5_3)) = some (.int .u8 t36_15) ∧
  ∀ (w_16 : World), (∃ m, w_16 = w_4.drewN m) →
  ((¬ t36_15 = 201 →
  K false w_16) ∧
  (t36_15 = 201 →
  next5 (IntKind.i64.wrap (i5_3 + 1)) w_16))) ∧
  (¬ (i5_3 ≥ ((b1_2.n : Int))) →
  ∀ (w_17 : World), (∃ m, w_17 = w_4.drewN m) →
  next5 (IntKind.i64.wrap (i5_3 + 1)) w_17))))) ∧
  (¬ (i5_3 < ((l0_1.n : Int))) →
  K true w_4))
/-- turnkey/turnkeylaw02.still -/
def F42 (l0_1 : Sl) (b1_2 : Sl) (K : Bool → World → Prop) (w : World) : Prop :=
  kLoop (F42_l1 l0_1 b1_2 K) (0) w
set_option maxHeartbeats 4000000 in
set_option maxRecDepth 20000 in
theorem F42_sound (l0_1 : Sl) (b1_2 : Sl) (K : Bool → World → Prop) (w : World) (h : F42 l0_1 b1_2 K w) :
    Calls Try.prog 42 #[.slice l0_1.a l0_1.n l0_1.c, .slice b1_2.a b1_2.n b1_2.c] w (fun e w1 => ∃ (r0 : Bool), e = .returned (.bool r0 : Value) ∧ K r0 w1) := by
  unfold F42 at h
  refine y_enter (n := 40) (args := [.slice l0_1.a l0_1.n l0_1.c, .slice b1_2.a b1_2.n b1_2.c]) Try.func42 rfl rfl rfl fun Q0 hQ0 => ?_
  refine y_seq fun K1 hK1 => ?_
  refine y_region ?_
  refine y_k (.bool false : Value) w rfl rfl rfl (by kernel_rfl) ?_
  refine y_nil ?_
  refine y_then (hK1 _ _ ?_)
  refine y_seq fun K2 hK2 => ?_
  refine y_seq fun K3 hK3 => ?_
  refine y_region ?_
  refine y_k (.int .i64 0 : Value) w rfl rfl rfl (by kernel_rfl) ?_
  refine y_nil ?_
  refine y_then (hK3 _ _ ?_)
  refine y_block ?_
  refine y_loop (S := Int) (fun s j => match s with | (i5_3) => upd (upd (upd (j) 0 (.slice l0_1.a l0_1.n l0_1.c : Value)) 1 (.slice b1_2.a b1_2.n b1_2.c : Value)) 5 (.int .i64 i5_3 : Value)) (0) ?_ h ?_
  · dsimp only
    refine upd_id ?_ rfl
    refine upd_id ?_ rfl
    refine upd_id ?_ rfl
    rfl
  rintro KN6 next5 hN6 i5_3 j w_4 h
  unfold F42_l1 at h
  refine y_seq fun K7 hK7 => ?_
  refine y_seq fun K8 hK8 => ?_
  refine y_region ?_
  refine y_k (.int .i64 i5_3 : Value) w_4 rfl rfl rfl (by kernel_rfl) ?_
  refine y_k (.slice l0_1.a l0_1.n l0_1.c : Value) w_4 rfl rfl rfl (by kernel_rfl) ?_
  refine y_k (.int .i64 ((l0_1.n : Int)) : Value) w_4 rfl rfl rfl (by kernel_rfl) ?_
  refine y_k (.bool (decide (i5_3 < ((l0_1.n : Int)))) : Value) w_4 rfl rfl rfl (by kernel_rfl) ?_
  refine y_nil ?_
  refine y_then (hK8 _ _ ?_)
  refine y_cond (decide (i5_3 < ((l0_1.n : Int)))) rfl rfl (fun hb36 => ?_) (fun hb36 => ?_)
  · replace h := h.1 (of_decide_eq_true hb36)
    refine y_skip ?_
    refine y_then (hK7 _ _ ?_)
    refine y_seq fun K9 hK9 => ?_
    refine y_block ?_
    refine y_seq fun K11 hK11 => ?_
    refine q_region (by kernel_rfl) (by kernel_rfl) fun Qq12 hQq12 => ?_
    refine q_k (.int .i64 i5_3 : Value) rfl rfl rfl (fun _ => by kernel_rfl) ?_
    refine q_k (.slice b1_2.a b1_2.n b1_2.c : Value) rfl rfl rfl (fun _ => by kernel_rfl) ?_
    refine q_k (.int .i64 ((b1_2.n : Int)) : Value) rfl rfl rfl (fun _ => by kernel_rfl) ?_
    refine q_k (.bool (decide (i5_3 < ((b1_2.n : Int)))) : Value) rfl rfl rfl (fun _ => by kernel_rfl) ?_
    refine q_k (.bool (decide (i5_3 < ((b1_2.n : Int)))) : Value) rfl rfl rfl (fun _ => by kernel_rfl) ?_
    refine q_fork (decide (i5_3 < ((b1_2.n : Int)))) (fun hb13 => ?_) (fun hb13 => ?_)
    · replace h := h.1 (of_decide_eq_true hb13)
      refine q_frame (upd_id (i := 16) (v := .bool true) rfl (congrArg Value.bool hb13)) ?_
      refine q_gyes rfl rfl rfl ?_
      refine q_k (.slice l0_1.a l0_1.n l0_1.c : Value) rfl rfl rfl (fun _ => by kernel_rfl) ?_
      refine q_gyes rfl rfl rfl ?_
      refine q_k (.int .i64 i5_3 : Value) rfl rfl rfl (fun _ => by kernel_rfl) ?_
      refine q_gyes rfl rfl rfl ?_
      obtain ⟨hx14a, hx14b, a_5, hx14, h⟩ := h
      refine q_v (v := (.pointer (some (a_5.add (Int.toNat i5_3))) : Value)) (s := Instr.indexAt 33 (.slice l0_1.a l0_1.n l0_1.c : Value) (.int .i64 i5_3 : Value)) rfl rfl rfl (by kernel_rfl) (fun _ => run_ixs1 (el := 5) (by kernel_rfl) (by kernel_rfl) hx14 hx14a hx14b) ?_
      refine q_gyes rfl rfl rfl ?_
      obtain ⟨t20_6, hx15, h⟩ := h
      refine q_v (v := (.int .u8 t20_6 : Value)) (s := Instr.loadAt 5 (.pointer (some (a_5.add (Int.toNat i5_3))))) rfl rfl rfl (by kernel_rfl) (fun _ => rn_load (by kernel_rfl) hx15) ?_
      refine q_gyes rfl rfl rfl ?_
      refine q_k (.slice b1_2.a b1_2.n b1_2.c : Value) rfl rfl rfl (fun _ => by kernel_rfl) ?_
      refine q_gyes rfl rfl rfl ?_
      refine q_k (.int .i64 i5_3 : Value) rfl rfl rfl (fun _ => by kernel_rfl) ?_
      refine q_gyes rfl rfl rfl ?_
      obtain ⟨hx16a, hx16b, a_7, hx16, h⟩ := h
      refine q_v (v := (.pointer (some (a_7.add (Int.toNat i5_3))) : Value)) (s := Instr.indexAt 33 (.slice b1_2.a b1_2.n b1_2.c : Value) (.int .i64 i5_3 : Value)) rfl rfl rfl (by kernel_rfl) (fun _ => run_ixs1 (el := 5) (by kernel_rfl) (by kernel_rfl) hx16 hx16a hx16b) ?_
      refine q_gyes rfl rfl rfl ?_
      obtain ⟨t24_8, hx17, h⟩ := h
      refine q_v (v := (.int .u8 t24_8 : Value)) (s := Instr.loadAt 5 (.pointer (some (a_7.add (Int.toNat i5_3))))) rfl rfl rfl (by kernel_rfl) (fun _ => rn_load (by kernel_rfl) hx17) ?_
      refine q_gyes rfl rfl rfl ?_
      refine q_k (.bool ((t20_6 != t24_8)) : Value) rfl rfl rfl (fun _ => by kernel_rfl) ?_
      refine q_k (.bool ((t20_6 != t24_8)) : Value) rfl rfl rfl (fun _ => by kernel_rfl) ?_
      refine q_k (.bool ((t20_6 != t24_8)) : Value) rfl rfl rfl (fun _ => by kernel_rfl) ?_
      refine q_fork ((t20_6 != t24_8)) (fun hb18 => ?_) (fun hb18 => ?_)
      · replace h := h.1 (bne_iff_ne.mp hb18)
        refine q_frame (upd_id (i := 27) (v := .bool true) rfl (congrArg Value.bool hb18)) ?_
        refine q_gno rfl rfl rfl rfl ?_
        refine q_gno rfl rfl rfl rfl ?_
        refine q_gno rfl rfl rfl rfl ?_
        refine q_gno rfl rfl rfl rfl ?_
        refine q_gno rfl rfl rfl rfl ?_
        refine q_gud rfl rfl rfl rfl ?_
        refine q_gud rfl rfl rfl rfl ?_
        refine q_gud rfl rfl rfl rfl ?_
        refine q_gud rfl rfl rfl rfl ?_
        refine q_gud rfl rfl rfl rfl ?_
        refine q_gno rfl rfl rfl rfl ?_
        refine q_k (.bool true : Value) rfl rfl rfl (fun _ => by kernel_rfl) ?_
        refine q_nil (hQq12 _ fun m20 => ?_)
        replace h := h _ ⟨m20, rfl⟩
        generalize w_4.drewN m20 = w_9 at h ⊢
        refine y_then (hK11 _ _ ?_)
        refine y_cond_t rfl rfl ?_
        refine y_seq fun K19 hK19 => ?_
        refine y_region ?_
        refine y_k (.bool false : Value) w_9 rfl rfl rfl (by kernel_rfl) ?_
        refine y_nil ?_
        refine y_then (hK19 _ _ ?_)
        refine y_ret ?_
        repeat (first | refine e_then_r ?_ | refine e_block_r ?_)
        exact (hQ0 _ _ _ (res1 (v := (.bool false : Value)) rfl rfl rfl) ⟨_, rfl, h⟩).1
      · replace h := h.2 (bne_eq_false_iff_eq.mp hb18)
        refine q_frame (upd_id (i := 27) (v := .bool false) rfl (congrArg Value.bool hb18)) ?_
        refine q_gyes rfl rfl rfl ?_
        refine q_k (.int .i64 i5_3 : Value) rfl rfl rfl (fun _ => by kernel_rfl) ?_
        refine q_gyes rfl rfl rfl ?_
        refine q_k (.slice b1_2.a b1_2.n b1_2.c : Value) rfl rfl rfl (fun _ => by kernel_rfl) ?_
        refine q_gyes rfl rfl rfl ?_
        refine q_k (.int .i64 ((b1_2.n : Int)) : Value) rfl rfl rfl (fun _ => by kernel_rfl) ?_
        refine q_gyes rfl rfl rfl ?_
        refine q_k (.bool (decide (i5_3 ≥ ((b1_2.n : Int)))) : Value) rfl rfl rfl (fun _ => by kernel_rfl) ?_
        refine q_gyes rfl rfl rfl ?_
        refine q_k (.bool (decide (i5_3 ≥ ((b1_2.n : Int)))) : Value) rfl rfl rfl (fun _ => by kernel_rfl) ?_
        refine q_fork (decide (i5_3 ≥ ((b1_2.n : Int)))) (fun hb21 => ?_) (fun hb21 => ?_)
        · replace h := h.1 (of_decide_eq_true hb21)
          refine q_frame (upd_id (i := 32) (v := .bool true) rfl (congrArg Value.bool hb21)) ?_
          refine q_gyes rfl rfl rfl ?_
          refine q_k (.slice l0_1.a l0_1.n l0_1.c : Value) rfl rfl rfl (fun _ => by kernel_rfl) ?_
          refine q_gyes rfl rfl rfl ?_
          refine q_k (.int .i64 i5_3 : Value) rfl rfl rfl (fun _ => by kernel_rfl) ?_
          refine q_gyes rfl rfl rfl ?_
          obtain ⟨hx22a, hx22b, a_10, hx22, h⟩ := h
          refine q_v (v := (.pointer (some (a_10.add (Int.toNat i5_3))) : Value)) (s := Instr.indexAt 33 (.slice l0_1.a l0_1.n l0_1.c : Value) (.int .i64 i5_3 : Value)) rfl rfl rfl (by kernel_rfl) (fun _ => run_ixs1 (el := 5) (by kernel_rfl) (by kernel_rfl) hx22 hx22a hx22b) ?_
          refine q_gyes rfl rfl rfl ?_
          obtain ⟨t36_11, hx23, h⟩ := h
          refine q_v (v := (.int .u8 t36_11 : Value)) (s := Instr.loadAt 5 (.pointer (some (a_10.add (Int.toNat i5_3))))) rfl rfl rfl (by kernel_rfl) (fun _ => rn_load (by kernel_rfl) hx23) ?_
          refine q_gyes rfl rfl rfl ?_
          refine q_k (.bool ((t36_11 != 201)) : Value) rfl rfl rfl (fun _ => by kernel_rfl) ?_
          refine q_gyes rfl rfl rfl ?_
          refine q_k (.bool ((t36_11 != 201)) : Value) rfl rfl rfl (fun _ => by kernel_rfl) ?_
          refine q_k (.bool ((t36_11 != 201)) : Value) rfl rfl rfl (fun _ => by kernel_rfl) ?_
          refine q_nil (hQq12 _ fun m26 => ?_)
          replace h := h _ ⟨m26, rfl⟩
          generalize w_4.drewN m26 = w_12 at h ⊢
          refine y_then (hK11 _ _ ?_)
          refine y_cond ((t36_11 != 201)) rfl rfl (fun hb25 => ?_) (fun hb25 => ?_)
          · replace h := h.1 (bne_iff_ne.mp hb25)
            refine y_seq fun K24 hK24 => ?_
            refine y_region ?_
            refine y_k (.bool false : Value) w_12 rfl rfl rfl (by kernel_rfl) ?_
            refine y_nil ?_
            refine y_then (hK24 _ _ ?_)
            refine y_ret ?_
            repeat (first | refine e_then_r ?_ | refine e_block_r ?_)
            exact (hQ0 _ _ _ (res1 (v := (.bool false : Value)) rfl rfl rfl) ⟨_, rfl, h⟩).1
          · replace h := h.2 (bne_eq_false_iff_eq.mp hb25)
            refine y_skip ?_
            refine e_block_n ?_
            refine y_then (hK9 _ _ ?_)
            refine y_region ?_
            refine y_k (.int .i64 i5_3 : Value) w_12 rfl rfl rfl (by kernel_rfl) ?_
            refine y_k (.int .i64 (IntKind.i64.wrap (i5_3 + 1)) : Value) w_12 rfl rfl rfl (by kernel_rfl) ?_
            refine y_k (.int .i64 (IntKind.i64.wrap (i5_3 + 1)) : Value) w_12 rfl rfl rfl (by kernel_rfl) ?_
            refine y_nil ?_
            refine y_then (hN6 (IntKind.i64.wrap (i5_3 + 1)) _ _ h ?_)
            dsimp only
            refine upd_id ?_ rfl
            refine upd_id ?_ rfl
            refine upd_id ?_ rfl
            rfl
        · replace h := h.2 (of_decide_eq_false hb21)
          refine q_frame (upd_id (i := 32) (v := .bool false) rfl (congrArg Value.bool hb21)) ?_
          refine q_gno rfl rfl rfl rfl ?_
          refine q_gno rfl rfl rfl rfl ?_
          refine q_gno rfl rfl rfl rfl ?_
          refine q_gno rfl rfl rfl rfl ?_
          refine q_gno rfl rfl rfl rfl ?_
          refine q_gyes rfl rfl rfl ?_
          refine q_k (.bool false : Value) rfl rfl rfl (fun _ => by kernel_rfl) ?_
          refine q_k (.bool false : Value) rfl rfl rfl (fun _ => by kernel_rfl) ?_
          refine q_nil (hQq12 _ fun m27 => ?_)
          replace h := h _ ⟨m27, rfl⟩
          generalize w_4.drewN m27 = w_13 at h ⊢
          refine y_then (hK11 _ _ ?_)
          refine y_cond_f rfl rfl ?_
          refine y_skip ?_
          refine e_block_n ?_
          refine y_then (hK9 _ _ ?_)
          refine y_region ?_
          refine y_k (.int .i64 i5_3 : Value) w_13 rfl rfl rfl (by kernel_rfl) ?_
          refine y_k (.int .i64 (IntKind.i64.wrap (i5_3 + 1)) : Value) w_13 rfl rfl rfl (by kernel_rfl) ?_
          refine y_k (.int .i64 (IntKind.i64.wrap (i5_3 + 1)) : Value) w_13 rfl rfl rfl (by kernel_rfl) ?_
          refine y_nil ?_
          refine y_then (hN6 (IntKind.i64.wrap (i5_3 + 1)) _ _ h ?_)
          dsimp only
          refine upd_id ?_ rfl
          refine upd_id ?_ rfl
          refine upd_id ?_ rfl
          rfl
    · replace h := h.2 (of_decide_eq_false hb13)
      refine q_frame (upd_id (i := 16) (v := .bool false) rfl (congrArg Value.bool hb13)) ?_
      refine q_gno rfl rfl rfl rfl ?_
      refine q_gno rfl rfl rfl rfl ?_
      refine q_gno rfl rfl rfl rfl ?_
      refine q_gno rfl rfl rfl rfl ?_
      refine q_gno rfl rfl rfl rfl ?_
      refine q_gno rfl rfl rfl rfl ?_
      refine q_gno rfl rfl rfl rfl ?_
      refine q_gno rfl rfl rfl rfl ?_
      refine q_gno rfl rfl rfl rfl ?_
      refine q_k (.bool false : Value) rfl rfl rfl (fun _ => by kernel_rfl) ?_
      refine q_k (.bool false : Value) rfl rfl rfl (fun _ => by kernel_rfl) ?_
      refine q_gyes rfl rfl rfl ?_
      refine q_k (.int .i64 i5_3 : Value) rfl rfl rfl (fun _ => by kernel_rfl) ?_
      refine q_gyes rfl rfl rfl ?_
      refine q_k (.slice b1_2.a b1_2.n b1_2.c : Value) rfl rfl rfl (fun _ => by kernel_rfl) ?_
      refine q_gyes rfl rfl rfl ?_
      refine q_k (.int .i64 ((b1_2.n : Int)) : Value) rfl rfl rfl (fun _ => by kernel_rfl) ?_
      refine q_gyes rfl rfl rfl ?_
      refine q_k (.bool (decide (i5_3 ≥ ((b1_2.n : Int)))) : Value) rfl rfl rfl (fun _ => by kernel_rfl) ?_
      refine q_gyes rfl rfl rfl ?_
      refine q_k (.bool (decide (i5_3 ≥ ((b1_2.n : Int)))) : Value) rfl rfl rfl (fun _ => by kernel_rfl) ?_
      refine q_fork (decide (i5_3 ≥ ((b1_2.n : Int)))) (fun hb28 => ?_) (fun hb28 => ?_)
      · replace h := h.1 (of_decide_eq_true hb28)
        refine q_frame (upd_id (i := 32) (v := .bool true) rfl (congrArg Value.bool hb28)) ?_
        refine q_gyes rfl rfl rfl ?_
        refine q_k (.slice l0_1.a l0_1.n l0_1.c : Value) rfl rfl rfl (fun _ => by kernel_rfl) ?_
        refine q_gyes rfl rfl rfl ?_
        refine q_k (.int .i64 i5_3 : Value) rfl rfl rfl (fun _ => by kernel_rfl) ?_
        refine q_gyes rfl rfl rfl ?_
        obtain ⟨hx29a, hx29b, a_14, hx29, h⟩ := h
        refine q_v (v := (.pointer (some (a_14.add (Int.toNat i5_3))) : Value)) (s := Instr.indexAt 33 (.slice l0_1.a l0_1.n l0_1.c : Value) (.int .i64 i5_3 : Value)) rfl rfl rfl (by kernel_rfl) (fun _ => run_ixs1 (el := 5) (by kernel_rfl) (by kernel_rfl) hx29 hx29a hx29b) ?_
        refine q_gyes rfl rfl rfl ?_
        obtain ⟨t36_15, hx30, h⟩ := h
        refine q_v (v := (.int .u8 t36_15 : Value)) (s := Instr.loadAt 5 (.pointer (some (a_14.add (Int.toNat i5_3))))) rfl rfl rfl (by kernel_rfl) (fun _ => rn_load (by kernel_rfl) hx30) ?_
        refine q_gyes rfl rfl rfl ?_
        refine q_k (.bool ((t36_15 != 201)) : Value) rfl rfl rfl (fun _ => by kernel_rfl) ?_
        refine q_gyes rfl rfl rfl ?_
        refine q_k (.bool ((t36_15 != 201)) : Value) rfl rfl rfl (fun _ => by kernel_rfl) ?_
        refine q_k (.bool ((t36_15 != 201)) : Value) rfl rfl rfl (fun _ => by kernel_rfl) ?_
        refine q_nil (hQq12 _ fun m33 => ?_)
        replace h := h _ ⟨m33, rfl⟩
        generalize w_4.drewN m33 = w_16 at h ⊢
        refine y_then (hK11 _ _ ?_)
        refine y_cond ((t36_15 != 201)) rfl rfl (fun hb32 => ?_) (fun hb32 => ?_)
        · replace h := h.1 (bne_iff_ne.mp hb32)
          refine y_seq fun K31 hK31 => ?_
          refine y_region ?_
          refine y_k (.bool false : Value) w_16 rfl rfl rfl (by kernel_rfl) ?_
          refine y_nil ?_
          refine y_then (hK31 _ _ ?_)
          refine y_ret ?_
          repeat (first | refine e_then_r ?_ | refine e_block_r ?_)
          exact (hQ0 _ _ _ (res1 (v := (.bool false : Value)) rfl rfl rfl) ⟨_, rfl, h⟩).1
        · replace h := h.2 (bne_eq_false_iff_eq.mp hb32)
          refine y_skip ?_
          refine e_block_n ?_
          refine y_then (hK9 _ _ ?_)
          refine y_region ?_
          refine y_k (.int .i64 i5_3 : Value) w_16 rfl rfl rfl (by kernel_rfl) ?_
          refine y_k (.int .i64 (IntKind.i64.wrap (i5_3 + 1)) : Value) w_16 rfl rfl rfl (by kernel_rfl) ?_
          refine y_k (.int .i64 (IntKind.i64.wrap (i5_3 + 1)) : Value) w_16 rfl rfl rfl (by kernel_rfl) ?_
          refine y_nil ?_
          refine y_then (hN6 (IntKind.i64.wrap (i5_3 + 1)) _ _ h ?_)
          dsimp only
          refine upd_id ?_ rfl
          refine upd_id ?_ rfl
          refine upd_id ?_ rfl
          rfl
      · replace h := h.2 (of_decide_eq_false hb28)
        refine q_frame (upd_id (i := 32) (v := .bool false) rfl (congrArg Value.bool hb28)) ?_
        refine q_gno rfl rfl rfl rfl ?_
        refine q_gno rfl rfl rfl rfl ?_
        refine q_gno rfl rfl rfl rfl ?_
        refine q_gno rfl rfl rfl rfl ?_
        refine q_gno rfl rfl rfl rfl ?_
        refine q_gyes rfl rfl rfl ?_
        refine q_k (.bool false : Value) rfl rfl rfl (fun _ => by kernel_rfl) ?_
        refine q_k (.bool false : Value) rfl rfl rfl (fun _ => by kernel_rfl) ?_
        refine q_nil (hQq12 _ fun m34 => ?_)
        replace h := h _ ⟨m34, rfl⟩
        generalize w_4.drewN m34 = w_17 at h ⊢
        refine y_then (hK11 _ _ ?_)
        refine y_cond_f rfl rfl ?_
        refine y_skip ?_
        refine e_block_n ?_
        refine y_then (hK9 _ _ ?_)
        refine y_region ?_
        refine y_k (.int .i64 i5_3 : Value) w_17 rfl rfl rfl (by kernel_rfl) ?_
        refine y_k (.int .i64 (IntKind.i64.wrap (i5_3 + 1)) : Value) w_17 rfl rfl rfl (by kernel_rfl) ?_
        refine y_k (.int .i64 (IntKind.i64.wrap (i5_3 + 1)) : Value) w_17 rfl rfl rfl (by kernel_rfl) ?_
        refine y_nil ?_
        refine y_then (hN6 (IntKind.i64.wrap (i5_3 + 1)) _ _ h ?_)
        dsimp only
        refine upd_id ?_ rfl
        refine upd_id ?_ rfl
        refine upd_id ?_ rfl
        rfl
  · replace h := h.2 (of_decide_eq_false hb36)
    refine y_exit ?_
    repeat (first | refine e_then_x ?_ | refine e_block_y rfl ?_)
    refine e_block_x ?_
    refine y_then (hK2 _ _ ?_)
    refine y_seq fun K35 hK35 => ?_
    refine y_region ?_
    refine y_k (.bool true : Value) w_4 rfl rfl rfl (by kernel_rfl) ?_
    refine y_nil ?_
    refine y_then (hK35 _ _ ?_)
    refine y_ret ?_
    repeat (first | refine e_then_r ?_ | refine e_block_r ?_)
    exact (hQ0 _ _ _ (res1 (v := (.bool true : Value)) rfl rfl rfl) ⟨_, rfl, h⟩).1

/-- math/bits.RotateLeft32 -/
def F110 (x0_1 : Int) (k1_2 : Int) (K : Int → World → Prop) (w : World) : Prop :=
  (0 : Int) ≤ (ibits .and .u64 (IntKind.u64.wrap k1_2) 31) ∧
  (0 : Int) ≤ (IntKind.u64.wrap (32 - (ibits .and .u64 (IntKind.u64.wrap k1_2) 31))) ∧
  K (ibits .or .u32 (ishl .u32 x0_1 (ibits .and .u64 (IntKind.u64.wrap k1_2) 31)) (ishr .u32 x0_1 (IntKind.u64.wrap (32 - (ibits .and .u64 (IntKind.u64.wrap k1_2) 31))))) w
set_option maxHeartbeats 4000000 in
set_option maxRecDepth 20000 in
theorem F110_sound (x0_1 : Int) (k1_2 : Int) (K : Int → World → Prop) (w : World) (h : F110 x0_1 k1_2 K w) :
    Calls Try.prog 110 #[.int .u32 x0_1, .int .i64 k1_2] w (fun e w1 => ∃ (r0 : Int), e = .returned (.int .u32 r0 : Value) ∧ K r0 w1) := by
  unfold F110 at h
  refine y_enter (n := 17) (args := [.int .u32 x0_1, .int .i64 k1_2]) Try.func110 rfl rfl rfl fun Q0 hQ0 => ?_
  refine y_seq fun K1 hK1 => ?_
  refine y_region ?_
  refine y_k (.int .u32 0 : Value) w rfl rfl rfl (by kernel_rfl) ?_
  refine y_nil ?_
  refine y_then (hK1 _ _ ?_)
  refine y_seq fun K2 hK2 => ?_
  refine y_region ?_
  refine y_k (.int .i64 k1_2 : Value) w rfl rfl rfl (by kernel_rfl) ?_
  refine y_k (.int .u64 (IntKind.u64.wrap k1_2) : Value) w rfl rfl rfl (by kernel_rfl) ?_
  refine y_k (.int .u64 (ibits .and .u64 (IntKind.u64.wrap k1_2) 31) : Value) w rfl rfl rfl (by kernel_rfl) ?_
  refine y_k (.int .u64 (ibits .and .u64 (IntKind.u64.wrap k1_2) 31) : Value) w rfl rfl rfl (by kernel_rfl) ?_
  refine y_nil ?_
  refine y_then (hK2 _ _ ?_)
  refine y_seq fun K3 hK3 => ?_
  refine y_region ?_
  refine y_k (.int .u32 x0_1 : Value) w rfl rfl rfl (by kernel_rfl) ?_
  refine y_k (.int .u64 (ibits .and .u64 (IntKind.u64.wrap k1_2) 31) : Value) w rfl rfl rfl (by kernel_rfl) ?_
  obtain ⟨hx4, h⟩ := h
  refine y_k (.int .u32 (ishl .u32 x0_1 (ibits .and .u64 (IntKind.u64.wrap k1_2) 31)) : Value) w rfl rfl rfl (run_shl hx4 rfl rfl) ?_
  refine y_k (.int .u32 x0_1 : Value) w rfl rfl rfl (by kernel_rfl) ?_
  refine y_k (.int .u64 (ibits .and .u64 (IntKind.u64.wrap k1_2) 31) : Value) w rfl rfl rfl (by kernel_rfl) ?_
  refine y_k (.int .u64 (IntKind.u64.wrap (32 - (ibits .and .u64 (IntKind.u64.wrap k1_2) 31))) : Value) w rfl rfl rfl (by kernel_rfl) ?_
  obtain ⟨hx5, h⟩ := h
  refine y_k (.int .u32 (ishr .u32 x0_1 (IntKind.u64.wrap (32 - (ibits .and .u64 (IntKind.u64.wrap k1_2) 31)))) : Value) w rfl rfl rfl (run_shr hx5 rfl rfl) ?_
  refine y_k (.int .u32 (ibits .or .u32 (ishl .u32 x0_1 (ibits .and .u64 (IntKind.u64.wrap k1_2) 31)) (ishr .u32 x0_1 (IntKind.u64.wrap (32 - (ibits .and .u64 (IntKind.u64.wrap k1_2) 31))))) : Value) w rfl rfl rfl (by kernel_rfl) ?_
  refine y_k (.int .u32 (ibits .or .u32 (ishl .u32 x0_1 (ibits .and .u64 (IntKind.u64.wrap k1_2) 31)) (ishr .u32 x0_1 (IntKind.u64.wrap (32 - (ibits .and .u64 (IntKind.u64.wrap k1_2) 31))))) : Value) w rfl rfl rfl (by kernel_rfl) ?_
  refine y_nil ?_
  refine y_then (hK3 _ _ ?_)
  refine y_ret ?_
  repeat (first | refine e_then_r ?_ | refine e_block_r ?_)
  exact (hQ0 _ _ _ (res1 (v := (.int .u32 (ibits .or .u32 (ishl .u32 x0_1 (ibits .and .u64 (IntKind.u64.wrap k1_2) 31)) (ishr .u32 x0_1 (IntKind.u64.wrap (32 - (ibits .and .u64 (IntKind.u64.wrap k1_2) 31))))) : Value)) rfl rfl rfl) ⟨_, rfl, h⟩).1

/-- turnkey/sum.right -/
def F99 (x0_1 : Int) (n1_2 : Int) (K : Int → World → Prop) (w : World) : Prop :=
  Calls Try.prog 110 #[.int .u32 x0_1, .int .i64 (IntKind.i64.wrap (0 - n1_2))] w fun e w_4 => ∃ (t8_3 : Int), e = .returned (.int .u32 t8_3 : Value) ∧
  K t8_3 w_4
set_option maxHeartbeats 4000000 in
set_option maxRecDepth 20000 in
theorem F99_sound (x0_1 : Int) (n1_2 : Int) (K : Int → World → Prop) (w : World) (h : F99 x0_1 n1_2 K w) :
    Calls Try.prog 99 #[.int .u32 x0_1, .int .i64 n1_2] w (fun e w1 => ∃ (r0 : Int), e = .returned (.int .u32 r0 : Value) ∧ K r0 w1) := by
  unfold F99 at h
  refine y_enter (n := 9) (args := [.int .u32 x0_1, .int .i64 n1_2]) Try.func99 rfl rfl rfl fun Q0 hQ0 => ?_
  refine y_seq fun K1 hK1 => ?_
  refine y_region ?_
  refine y_k (.int .u32 0 : Value) w rfl rfl rfl (by kernel_rfl) ?_
  refine y_nil ?_
  refine y_then (hK1 _ _ ?_)
  refine y_seq fun K2 hK2 => ?_
  refine y_region ?_
  refine y_k (.int .u32 x0_1 : Value) w rfl rfl rfl (by kernel_rfl) ?_
  refine y_k (.int .i64 n1_2 : Value) w rfl rfl rfl (by kernel_rfl) ?_
  refine y_k (.int .i64 (IntKind.i64.wrap (0 - n1_2)) : Value) w rfl rfl rfl (by kernel_rfl) ?_
  refine y_call rfl rfl rfl (by kernel_rfl) (h.mono ?_)
  rintro _ w_4 ⟨t8_3, rfl, h⟩
  refine ⟨_, rfl, ?_⟩
  refine y_k (.int .u32 t8_3 : Value) w_4 rfl rfl rfl (by kernel_rfl) ?_
  refine y_nil ?_
  refine y_then (hK2 _ _ ?_)
  refine y_ret ?_
  repeat (first | refine e_then_r ?_ | refine e_block_r ?_)
  exact (hQ0 _ _ _ (res1 (v := (.int .u32 t8_3 : Value)) rfl rfl rfl) ⟨_, rfl, h⟩).1

/-- turnkey/turnkeyref02.rot -/
def F95 (x0_1 : Int) (n1_2 : Int) (K : Int → World → Prop) (w : World) : Prop :=
  (0 : Int) ≤ n1_2 ∧
  (0 : Int) ≤ (IntKind.i64.wrap (32 - n1_2)) ∧
  ∀ (w_3 : World), (∃ m, w_3 = w.drewN m) →
  K (ibits .or .u32 (ishr .u32 x0_1 n1_2) (ishl .u32 x0_1 (IntKind.i64.wrap (32 - n1_2)))) w_3
set_option maxHeartbeats 4000000 in
set_option maxRecDepth 20000 in
theorem F95_sound (x0_1 : Int) (n1_2 : Int) (K : Int → World → Prop) (w : World) (h : F95 x0_1 n1_2 K w) :
    Calls Try.prog 95 #[.int .u32 x0_1, .int .i64 n1_2] w (fun e w1 => ∃ (r0 : Int), e = .returned (.int .u32 r0 : Value) ∧ K r0 w1) := by
  unfold F95 at h
  refine y_enter (n := 13) (args := [.int .u32 x0_1, .int .i64 n1_2]) Try.func95 rfl rfl rfl fun Q0 hQ0 => ?_
  refine y_seq fun K1 hK1 => ?_
  refine y_region ?_
  refine y_k (.int .u32 0 : Value) w rfl rfl rfl (by kernel_rfl) ?_
  refine y_nil ?_
  refine y_then (hK1 _ _ ?_)
  refine y_seq fun K2 hK2 => ?_
  refine q_region (by kernel_rfl) (by kernel_rfl) fun Qq3 hQq3 => ?_
  refine q_k (.int .u32 x0_1 : Value) rfl rfl rfl (fun _ => by kernel_rfl) ?_
  refine q_k (.int .i64 n1_2 : Value) rfl rfl rfl (fun _ => by kernel_rfl) ?_
  obtain ⟨hx4, h⟩ := h
  refine q_k (.int .u32 (ishr .u32 x0_1 n1_2) : Value) rfl rfl rfl (fun _ => run_shr hx4 rfl rfl) ?_
  refine q_k (.int .u32 x0_1 : Value) rfl rfl rfl (fun _ => by kernel_rfl) ?_
  refine q_k (.int .i64 n1_2 : Value) rfl rfl rfl (fun _ => by kernel_rfl) ?_
  refine q_k (.int .i64 (IntKind.i64.wrap (32 - n1_2)) : Value) rfl rfl rfl (fun _ => by kernel_rfl) ?_
  obtain ⟨hx5, h⟩ := h
  refine q_k (.int .u32 (ishl .u32 x0_1 (IntKind.i64.wrap (32 - n1_2))) : Value) rfl rfl rfl (fun _ => run_shl hx5 rfl rfl) ?_
  refine q_k (.int .u32 (ibits .or .u32 (ishr .u32 x0_1 n1_2) (ishl .u32 x0_1 (IntKind.i64.wrap (32 - n1_2)))) : Value) rfl rfl rfl (fun _ => by kernel_rfl) ?_
  refine q_k (.int .u32 (ibits .or .u32 (ishr .u32 x0_1 n1_2) (ishl .u32 x0_1 (IntKind.i64.wrap (32 - n1_2)))) : Value) rfl rfl rfl (fun _ => by kernel_rfl) ?_
  refine q_nil (hQq3 _ fun m6 => ?_)
  replace h := h _ ⟨m6, rfl⟩
  generalize w.drewN m6 = w_3 at h ⊢
  refine y_then (hK2 _ _ ?_)
  refine y_ret ?_
  repeat (first | refine e_then_r ?_ | refine e_block_r ?_)
  exact (hQ0 _ _ _ (res1 (v := (.int .u32 (ibits .or .u32 (ishr .u32 x0_1 n1_2) (ishl .u32 x0_1 (IntKind.i64.wrap (32 - n1_2)))) : Value)) rfl rfl rfl) ⟨_, rfl, h⟩).1

end Go.Proofs.Ytjgijifankaglaa
