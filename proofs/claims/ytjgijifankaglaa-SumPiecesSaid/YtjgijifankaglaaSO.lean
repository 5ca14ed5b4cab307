/- The hash object: New, and begin when it has begun. -/
import Derived.Test.YtjgijifankaglaaSK
import Derived.Test.YtjgijifankaglaaGSe
namespace Go.Proofs.Ytjgijifankaglaa
open Go Go.RowKit Go.Proofs.Ytjgijifankaglaa.SX
set_option linter.unusedVariables false

/-- a hash: eight numbers, sixty-four numbers, what stands behind the blocks, how many bytes there were -/
def Hrow (w : World) (g : Nat) (h k : Nat → Int) (rest : Sl) (n : Int) : Prop := ∃ cs, w.heap[g]? = some (.cells cs 98 (0, 0)) ∧ cs.size = 74 ∧ (∀ j, j < 8 → cs[j]? = some (.int .u32 (h j))) ∧ (∀ j, j < 64 → cs[8 + j]? = some (.int .u32 (k j))) ∧ cs[72]? = some (.slice rest.a rest.n rest.c) ∧ cs[73]? = some (.int .u64 n)
theorem Hrow.gr {w w' : World} {g : Nat} {h k : Nat → Int} {rest : Sl} {n : Int} {S : Nat → Prop} (hr : Hrow w g h k rest n) (q : Gr S w w') (hn : ¬ S g) : Hrow w' g h k rest n := by
  obtain ⟨cs, h1, h2⟩ := hr
  exact ⟨cs, q.blk h1 hn, h2⟩
def zer : Array Value := #[.int .u32 0, .int .u32 0, .int .u32 0, .int .u32 0, .int .u32 0, .int .u32 0, .int .u32 0, .int .u32 0, .int .u32 0, .int .u32 0, .int .u32 0, .int .u32 0, .int .u32 0, .int .u32 0, .int .u32 0, .int .u32 0, .int .u32 0, .int .u32 0, .int .u32 0, .int .u32 0, .int .u32 0, .int .u32 0, .int .u32 0, .int .u32 0, .int .u32 0, .int .u32 0, .int .u32 0, .int .u32 0, .int .u32 0, .int .u32 0, .int .u32 0, .int .u32 0, .int .u32 0, .int .u32 0, .int .u32 0, .int .u32 0, .int .u32 0, .int .u32 0, .int .u32 0, .int .u32 0, .int .u32 0, .int .u32 0, .int .u32 0, .int .u32 0, .int .u32 0, .int .u32 0, .int .u32 0, .int .u32 0, .int .u32 0, .int .u32 0, .int .u32 0, .int .u32 0, .int .u32 0, .int .u32 0, .int .u32 0, .int .u32 0, .int .u32 0, .int .u32 0, .int .u32 0, .int .u32 0, .int .u32 0, .int .u32 0, .int .u32 0, .int .u32 0, .int .u32 0, .int .u32 0, .int .u32 0, .int .u32 0, .int .u32 0, .int .u32 0, .int .u32 0, .int .u32 0, .slice none 0 0, .int .u64 0]
theorem zer_lo : ∀ j, j < 72 → zer[j]? = some (.int .u32 0) := by
  intro j hj
  have h : ∀ i : Fin 72, (zer[i.val]?.map fun v => match v with | .int .u32 0 => true | _ => false) = some true := by decide +kernel
  have := h ⟨j, hj⟩
  simp only at this
  cases hz : zer[j]? with
  | none => rw [hz] at this; simp at this
  | some v =>
    rw [hz] at this
    simp only [Option.map_some, Option.some.injEq] at this
    split at this
    · rfl
    · cases this
theorem C45 (w : World) : Calls Try.prog 45 #[] w (fun e w1 => ∃ (r0 : Option Addr), e = .returned (.pointer r0) ∧ (r0 = some ⟨w.heap.size, 0, none⟩ ∧ Hrow w1 w.heap.size (fun _ => 0) (fun _ => 0) ⟨none, 0, 0⟩ 0 ∧ Below w.heap.size w w1)) := by
  refine F45_sound (fun r0 w1 => r0 = some ⟨w.heap.size, 0, none⟩ ∧ Hrow w1 w.heap.size (fun _ => 0) (fun _ => 0) ⟨none, 0, 0⟩ 0 ∧ Below w.heap.size w w1) w ?_
  unfold F45
  refine ⟨.agg zer, by kernel_rfl, ?_⟩
  intro w2 e
  refine ⟨rfl, ⟨zer, by rw [e]; exact heap_alloc_new w _, by rfl, fun j hj => zer_lo j (by omega), fun j hj => zer_lo (8 + j) (by omega), rfl, rfl⟩, by rw [e]; exact below_row _ _⟩
theorem C78_on {w : World} {g : Nat} {h : Nat → Int} {rest : Sl} {n : Int} (hr : Hrow w g h KR rest n) : Calls Try.prog 78 #[.pointer (some ⟨g, 0, none⟩)] w (fun e w1 => e = .returned (.tuple #[]) ∧ w1 = w) := by
  refine F78_sound (some ⟨g, 0, none⟩) (fun w1 => w1 = w) w ?_
  unfold F78
  obtain ⟨cs, h1, h2, h3, h4, h5, h6⟩ := hr
  have hload := rn_loadcells (P := Try.prog) (w := w) (T := 96) (a := (⟨g, 0, none⟩ : Addr).add 8) (k := 64) (cs := KL.map (Value.int .u32)) ⟨by kernel_rfl, by kernel_rfl⟩ rfl (cellsAt_of _ _ (fun j hj => by
    have hj2 : j < 64 := by simpa [KL_len] using hj
    have hj3 : j < KL.length := by rw [KL_len]; exact hj2
    rw [Nat.zero_add, add2, row_get h1, h4 j hj2]
    unfold KR
    simp [hj3]))
  exact ⟨_, rfl, .agg (KL.map (Value.int .u32)).toArray, hload, .agg #[.int .u32 0, .int .u32 0, .int .u32 0, .int .u32 0, .int .u32 0, .int .u32 0, .int .u32 0, .int .u32 0, .int .u32 0, .int .u32 0, .int .u32 0, .int .u32 0, .int .u32 0, .int .u32 0, .int .u32 0, .int .u32 0, .int .u32 0, .int .u32 0, .int .u32 0, .int .u32 0, .int .u32 0, .int .u32 0, .int .u32 0, .int .u32 0, .int .u32 0, .int .u32 0, .int .u32 0, .int .u32 0, .int .u32 0, .int .u32 0, .int .u32 0, .int .u32 0, .int .u32 0, .int .u32 0, .int .u32 0, .int .u32 0, .int .u32 0, .int .u32 0, .int .u32 0, .int .u32 0, .int .u32 0, .int .u32 0, .int .u32 0, .int .u32 0, .int .u32 0, .int .u32 0, .int .u32 0, .int .u32 0, .int .u32 0, .int .u32 0, .int .u32 0, .int .u32 0, .int .u32 0, .int .u32 0, .int .u32 0, .int .u32 0, .int .u32 0, .int .u32 0, .int .u32 0, .int .u32 0, .int .u32 0, .int .u32 0, .int .u32 0, .int .u32 0], by kernel_rfl, true, by kernel_rfl, fun _ => rfl, fun h => nomatch h⟩
end Go.Proofs.Ytjgijifankaglaa
