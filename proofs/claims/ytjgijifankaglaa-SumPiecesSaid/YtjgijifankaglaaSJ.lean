/- sum.behind and sum.primes. -/
import Derived.Test.YtjgijifankaglaaSI
namespace Go.Proofs.Ytjgijifankaglaa
open Go Go.RowKit Go.Proofs.Ytjgijifankaglaa.SX
set_option linter.unusedVariables false

def srch (p deg : Nat) : Nat → Nat → Nat → Nat
  | 0, lo, _ => lo
  | k + 1, lo, hi => if 1 < hi - lo then (if abv ((lo + hi) / 2) p deg then srch p deg k lo ((lo + hi) / 2) else srch p deg k ((lo + hi) / 2) hi) else lo
def beh (p deg : Nat) : Nat := srch p deg 37 0 137438953472 % 4294967296
theorem srch_end {p deg lo hi : Nat} (h : ¬ 1 < hi - lo) : ∀ k, srch p deg k lo hi = lo
  | 0 => rfl
  | k + 1 => by rw [srch, if_neg h]
theorem C98 (p deg : Nat) (w : World) (hp : p < 4294967296) (hd : deg = 2 ∨ deg = 3) : Calls Try.prog 98 #[.int .u64 (p : Int), .int .i64 (deg : Int)] w (fun e w1 => ∃ (r0 : Int), e = .returned (.int .u32 r0) ∧ (r0 = ((beh p deg : Nat) : Int) ∧ Below w.heap.size w w1)) := by
  refine F98_sound p deg (fun r0 w1 => r0 = ((beh p deg : Nat) : Int) ∧ Below w.heap.size w w1) w ?_
  unfold F98
  refine ⟨fun st wr => ∃ lo hi k : Nat, st = ((lo : Int), (hi : Int)) ∧ lo ≤ hi ∧ hi ≤ 137438953472 ∧ hi - lo ≤ 2 ^ k ∧ srch p deg k lo hi = srch p deg 37 0 137438953472 ∧ Below w.heap.size w wr, fun st _ => (st.2 - st.1).toNat, ⟨0, 137438953472, 37, rfl, by omega, by omega, by decide, rfl, Below.refl _ _⟩, ?_⟩
  rintro _ wr ⟨lo, hi, k, rfl, hlh, hh, hk, he, hb⟩
  unfold F98_l1
  dsimp only
  have ed : IntKind.u64.wrap ((hi : Int) - (lo : Int)) = ((hi - lo : Nat) : Int) := by rw [w_u64 (by omega) (by omega)]; omega
  rw [ed]
  refine ⟨fun hgt => ?_, fun hle => ⟨?_, hb⟩⟩
  · have h1 : 1 < hi - lo := by omega
    cases k with
    | zero => simp at hk; omega
    | succ k =>
      rw [srch, if_pos h1] at he
      rw [Nat.pow_succ] at hk
      have em : IntKind.u64.wrap (Int.tdiv (IntKind.u64.wrap ((lo : Int) + (hi : Int))) 2) = (((lo + hi) / 2 : Nat) : Int) := by
        rw [w_u64 (n := (lo : Int) + (hi : Int)) (by omega) (by omega), td (by omega), w_u64 (by omega) (by omega)]; omega
      rw [em]
      refine (C109 ((lo + hi) / 2) p deg wr (by omega) hp hd).mono ?_
      rintro _ w7 ⟨_, rfl, rfl, b7⟩
      refine ⟨_, rfl, fun ht => ?_, fun ht => ?_⟩
      · rw [if_pos ht] at he
        exact ⟨⟨lo, (lo + hi) / 2, k, rfl, by omega, by omega, by omega, he, hb.trans (b7.mono hb.size)⟩, by (try dsimp only); omega⟩
      · rw [if_neg (by simp [ht])] at he
        exact ⟨⟨(lo + hi) / 2, hi, k, rfl, by omega, by omega, by omega, he, hb.trans (b7.mono hb.size)⟩, by (try dsimp only); omega⟩
  · rw [srch_end (by omega)] at he
    unfold beh
    rw [← he, wm_u32]; omega
/-! ### primes -/
abbrev E8 : Int → Value := Value.int .u64
theorem tyP : Ty Try.prog 141 87 (.int .u64 0) 8 := ⟨Try.underlying141, by kernel_rfl, rfl, by omega⟩
theorem e8one (x : Int) : (E8 x).oneCell' = true := rfl
def pstep (l : List Nat) (n : Nat) : List Nat := if l.any (fun p => n % p == 0) then l else l ++ [n]
def pst : Nat → List Nat
  | 0 => []
  | t + 1 => pstep (pst t) (t + 2)
theorem pst_mono (t : Nat) : (pst t).length ≤ (pst (t + 1)).length := by
  rw [pst]; unfold pstep; split <;> simp
theorem pst_le {s t : Nat} (h : s ≤ t) : (pst s).length ≤ (pst t).length := by
  induction h with
  | refl => exact Nat.le_refl _
  | step h ih => exact Nat.le_trans ih (pst_mono _)
theorem pst_two (t : Nat) : ∀ p ∈ pst t, 2 ≤ p ∧ p ≤ t + 1 := by
  induction t with
  | zero => intro p hp; simp [pst] at hp
  | succ t ih =>
    intro p hp
    rw [pst] at hp
    unfold pstep at hp
    split at hp
    · have := ih p hp; omega
    · rcases List.mem_append.1 hp with h | h
      · have := ih p h; omega
      · simp at h; omega
def PR : List Nat := pst 310
theorem pr_309 : (pst 309).length = 63 := by decide +kernel
theorem pr_310 : (pst 310).length = 64 := by decide +kernel
end Go.Proofs.Ytjgijifankaglaa
