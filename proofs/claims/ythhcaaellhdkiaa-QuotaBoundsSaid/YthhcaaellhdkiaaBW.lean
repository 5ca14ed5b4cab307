/- The writer of package bits: its state, and what each call does. -/
import Derived.Test.YthhcaaellhdkiaaBA
import Derived.Test.YthhcaaellhdkiaaGR
import Derived.Test.YthhcaaellhdkiaaGBa
namespace Go.Proofs.Ythhcaaellhdkiaa
open Go Go.RowKit Go.Proofs.Ythhcaaellhdkiaa.SX
set_option linter.unusedVariables false

/-- A writer: its row is l; fp holds its blocks. -/
def Wr (w : World) (o : Addr) (l : List Bool) (fp : Nat → Prop) : Prop :=
  ∃ s : Sl, w.cell? o = some s.v ∧ w.cell? (o.add 1) = some (.int .i64 (l.length : Int)) ∧ w.frozen? o = false ∧ w.frozen? (o.add 1) = false ∧ Own B8 5 0 w s (pk l) ∧ (∀ b, s.blk = some b → fp b ∧ b ≠ o.block) ∧ fp o.block ∧ (∀ k, fp k → k < w.heap.size)
theorem Wr.keep {w w' : World} {o : Addr} {l : List Bool} {fp S : Nat → Prop} (h : Wr w o l fp) (hg : Gr S w w') (hn : ∀ k, fp k → ¬ S k) : Wr w' o l fp := by
  obtain ⟨s, h1, h2, h3, h4, h5, h6, h7, h8⟩ := h
  have hb := World.block_lt_of_cell? w _ h1
  exact ⟨s, hg.cell h1 (hn _ h7), hg.cell h2 (by rw [add_block]; exact hn _ h7), by rw [hg.frozen hb (hn _ h7)]; exact h3, by rw [hg.frozen (by rw [add_block]; exact hb) (by rw [add_block]; exact hn _ h7)]; exact h4,
    hg.own h5 (fun b hb => hn b (h6 b hb).1), h6, h7, fun k hk => Nat.lt_of_lt_of_le (h8 k hk) hg.size⟩

theorem C33 (w : World) : Calls Try.prog 33 #[] w (fun e w1 => ∃ (r : Option Addr), e = .returned (.pointer r : Value) ∧ (r = some ⟨w.heap.size, 0, none⟩ ∧ Wr w1 ⟨w.heap.size, 0, none⟩ [] (fun k => k = w.heap.size) ∧ Below w.heap.size w w1)) := by
  refine F33_sound (fun r w1 => r = some ⟨w.heap.size, 0, none⟩ ∧ Wr w1 ⟨w.heap.size, 0, none⟩ [] (fun k => k = w.heap.size) ∧ Below w.heap.size w w1) w ?_
  unfold F33
  rintro _ rfl
  refine ⟨rfl, ⟨⟨none, 0, 0⟩, ?_, ?_, by simp, by rw [add_lit]; simp, Own.nil, fun b hb => (nomatch hb), rfl, fun k hk => by subst hk; simp⟩, (Below.refl _ _).alloc (Nat.le_refl _) _⟩
  · have := row_cell w #[.slice none 0 0, .int .i64 0] 110 0 (by decide) (Below.refl _ _)
    exact this
  · have := row_cell w #[.slice none 0 0, .int .i64 0] 110 1 (by decide) (Below.refl _ _)
    exact this
theorem C44 {w : World} {o : Addr} {l : List Bool} {fp : Nat → Prop} (h : Wr w o l fp) : Calls Try.prog 44 #[.pointer (some o)] w (fun e w1 => ∃ (r : Int), e = .returned (.int .i64 r : Value) ∧ (r = l.length ∧ w1 = w)) := by
  refine F44_sound (some o) (fun r w1 => r = l.length ∧ w1 = w) w ?_
  unfold F44
  obtain ⟨s, h1, h2, _⟩ := h
  exact ⟨o, rfl, _, h2, rfl, rfl⟩

/-- a copy, of whatever length -/
theorem C62 {s : Sl} {xs : List Int} {w : World} (hr : Rd B8 w s xs) (hl : xs.length ≤ 140737488355328) : Calls Try.prog 62 #[.slice s.a s.n s.c] w (fun e w1 => ∃ (r0 : Sl), e = .returned (.slice r0.a r0.n r0.c : Value) ∧ (Own B8 5 w.heap.size w1 r0 xs ∧ Below w.heap.size w w1)) := by
  refine F62_sound s (fun r0 w1 => Own B8 5 w.heap.size w1 r0 xs ∧ Below w.heap.size w w1) w ?_
  unfold F62
  refine ⟨fun hn => ?_, fun hn => ?_⟩
  · have : xs = [] := by
      rcases Nat.eq_zero_or_pos s.n with h0 | h0
      · exact List.eq_nil_of_length_eq_zero (by have := hr.1; omega)
      · obtain ⟨a, ha, _⟩ := hr.2.2.2 h0
        rw [ha] at hn; cases hn
    subst this
    exact ⟨Own.nil, Below.refl _ _⟩
  · rintro _ rfl
    have hB : Below w.heap.size w (w.alloc (.cells #[] 5)) := (Below.refl _ _).alloc (Nat.le_refl _) _
    have ho : Own B8 5 w.heap.size (w.alloc (.cells #[] 5)) ⟨some ⟨w.heap.size, 0, none⟩, 0, 0⟩ [] := ⟨rfl, .inr ⟨w.heap.size, 0, #[], rfl, Nat.le_refl _, heap_alloc_new w _, Nat.le_refl _, by simp [maxLen], rfl, rfl⟩⟩
    obtain ⟨s2, w2, h1, h2⟩ := ap_many (ty := 22) ty22 b8one ho (hr.below hB) (by simp) (by simpa using hl)
    exact ⟨s2, w2, h1, by simpa using h2.own, h2.below ho (by simp) hB⟩
theorem C46 {w : World} {o : Addr} {l : List Bool} {fp : Nat → Prop} (h : Wr w o l fp) (hl : l.length ≤ 1000000) : Calls Try.prog 46 #[.pointer (some o)] w (fun e w1 => ∃ (r0 : Sl), e = .returned (.slice r0.a r0.n r0.c : Value) ∧ (Own B8 5 w.heap.size w1 r0 (pk l) ∧ Below w.heap.size w w1)) := by
  refine F46_sound (some o) (fun r0 w1 => Own B8 5 w.heap.size w1 r0 (pk l) ∧ Below w.heap.size w w1) w ?_
  unfold F46
  obtain ⟨s, h1, h2, h3, h4, h5, _⟩ := h
  exact ⟨o, rfl, s, h1, C62 h5.rd (by rw [pk_len]; omega)⟩
end Go.Proofs.Ythhcaaellhdkiaa
