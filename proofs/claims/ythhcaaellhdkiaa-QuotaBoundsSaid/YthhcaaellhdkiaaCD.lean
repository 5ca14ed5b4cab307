/- The reader of package bits. -/
import Derived.Test.YthhcaaellhdkiaaCC
namespace Go.Proofs.Ythhcaaellhdkiaa
open Go Go.RowKit Go.Proofs.Ythhcaaellhdkiaa.SX
set_option linter.unusedVariables false

theorem C37 {b : Sl} {xs : List Int} {w : World} (hr : Rd B8 w b xs) (hl : xs.length ≤ 140737488355328) :
    Calls Try.prog 37 #[.slice b.a b.n b.c] w (fun e w1 => ∃ (r : Option Addr), e = .returned (.pointer r : Value) ∧ (∃ o s, r = some o ∧ Wz w1 o s 0 xs (fun k => w.heap.size ≤ k ∧ k < w1.heap.size) ∧ Below w.heap.size w w1)) := by
  refine F37_sound b (fun r w1 => ∃ o s, r = some o ∧ Wz w1 o s 0 xs (fun k => w.heap.size ≤ k ∧ k < w1.heap.size) ∧ Below w.heap.size w w1) w ?_
  unfold F37
  refine (C62 hr hl).mono ?_
  rintro _ w3 ⟨s, rfl, os, b3⟩
  refine ⟨s, rfl, ?_⟩
  rintro _ rfl
  have hsz := b3.size
  have al : Below w3.heap.size w3 (w3.alloc (.cells #[s.v, .int .i64 0] 115)) := (Below.refl _ _).alloc (Nat.le_refl _) _
  refine ⟨_, s, rfl, ⟨?_, ?_, by simp, by rw [add_lit]; simp, (os.lower (Nat.zero_le _)).below al, ?_, ?_, ?_⟩, b3.trans (al.mono b3.size)⟩
  · exact row_cell w3 #[s.v, .int .i64 0] 115 0 (by simp) (Below.refl _ _)
  · exact row_cell w3 #[s.v, .int .i64 0] 115 1 (by simp) (Below.refl _ _)
  · intro k hk
    have := os.blk_ge k hk
    simp; omega
  · simp; omega
  · intro k hk; exact hk.2
theorem C41 {w : World} {o : Addr} {s : Sl} {a : Int} {xs : List Int} {fp : Nat → Prop} (h : Wz w o s a xs fp) (ha0 : 0 ≤ a) (ha1 : a ≤ 8 * xs.length) (hl : xs.length ≤ 140737488355328) :
    Calls Try.prog 41 #[.pointer (some o)] w (fun e w1 => ∃ (r : Int), e = .returned (.int .i64 r : Value) ∧ (r = 8 * (xs.length : Int) - a ∧ ∃ m, w1 = w.drewN m)) := by
  refine F41_sound (some o) (fun r w1 => r = 8 * (xs.length : Int) - a ∧ ∃ m, w1 = w.drewN m) w ?_
  unfold F41
  have hn := h.own.len
  refine ⟨o, rfl, s, h.c0, o, rfl, a, h.c1, ?_⟩
  rintro _ ⟨m, rfl⟩
  rw [w_i64 (n := 8 * (s.n : Int)) (by omega) (by omega), w_i64 (by omega) (by omega)]
  exact ⟨by omega, m, rfl⟩
end Go.Proofs.Ythhcaaellhdkiaa
