/- What changes in a call: the blocks of some set, and new ones. -/
import Derived.Test.YtjgijifankaglaaMF
namespace Go.Proofs.Ytjgijifankaglaa
open Go Go.RowKit Go.Proofs.Ytjgijifankaglaa.SX
set_option linter.unusedVariables false

structure Gr (S : Nat → Prop) (w w' : World) : Prop where
  os : w'.os = w.os
  tape : w'.tape = w.tape
  output : w'.output = w.output
  size : w.heap.size ≤ w'.heap.size
  block : ∀ k, k < w.heap.size → ¬ S k → w'.heap[k]? = w.heap[k]?

theorem Gr.refl (S : Nat → Prop) (w : World) : Gr S w w := ⟨rfl, rfl, rfl, Nat.le_refl _, fun _ _ _ => rfl⟩
theorem Gr.trans {S T : Nat → Prop} {a b c : World} (h : Gr S a b) (k : Gr T b c) (hs : ∀ i, i < a.heap.size → T i → S i) : Gr S a c :=
  ⟨k.os.trans h.os, k.tape.trans h.tape, k.output.trans h.output, Nat.le_trans h.size k.size, fun i hi hn => (k.block i (Nat.lt_of_lt_of_le hi h.size) (fun ht => hn (hs i hi ht))).trans (h.block i hi hn)⟩
theorem Gr.row {S : Nat → Prop} {w w' : World} {row : Option Nat} (hg : w.grownBy w' row) (hr : ∀ b, row = some b → S b) : Gr S w w' := ⟨hg.os, hg.tape, hg.output, hg.size, fun k hk hn => hg.block k hk (fun e => hn (hr k e.symm))⟩
theorem Gr.below {S : Nat → Prop} {w w' : World} (h : Below w.heap.size w w') : Gr S w w' := ⟨h.os, h.tape, h.output, h.size, fun k hk _ => h.block k hk⟩
theorem Gr.toBelow {S : Nat → Prop} {B : Nat} {w w' : World} (h : Gr S w w') (hB : B ≤ w.heap.size) (hs : ∀ k, S k → B ≤ k) : Below B w w' := ⟨h.os, h.tape, h.output, h.size, fun k hk => h.block k (by omega) (fun hk' => by have := hs k hk'; omega)⟩
theorem Gr.mono {S T : Nat → Prop} {w w' : World} (h : Gr S w w') (hs : ∀ k, S k → T k) : Gr T w w' := ⟨h.os, h.tape, h.output, h.size, fun k hk hn => h.block k hk (fun hk' => hn (hs k hk'))⟩
theorem Gr.cell {S : Nat → Prop} {w w' : World} (h : Gr S w w') {p : Addr} {v : Value} (hp : w.cell? p = some v) (hn : ¬ S p.block) : w'.cell? p = some v := by
  rw [World.cell?_of_block (w := w) (h.block p.block (World.block_lt_of_cell? w _ hp) hn)]; exact hp
theorem Gr.frozen {S : Nat → Prop} {w w' : World} (h : Gr S w w') {p : Addr} (hp : p.block < w.heap.size) (hn : ¬ S p.block) : w'.frozen? p = w.frozen? p := World.frozen?_of_block (w := w) (h.block p.block hp hn)
theorem Gr.rd {S : Nat → Prop} {w w' : World} {α : Type} {enc : α → Value} {s : Sl} {xs : List α} (h : Gr S w w') (hr : Rd enc w s xs) (hn : ∀ a, s.a = some a → ¬ S a.block) : Rd enc w' s xs :=
  hr.of_cells fun p v hp ⟨a, ha, hb⟩ => h.cell hp (by rw [hb]; exact hn a ha)
theorem Gr.own {S : Nat → Prop} {w w' : World} {α : Type} {enc : α → Value} {e base : Nat} {s : Sl} {xs : List α} (h : Gr S w w') (ho : Own enc e base w s xs) (hn : ∀ b, s.blk = some b → ¬ S b) : Own enc e base w' s xs := by
  refine ⟨ho.1, ?_⟩
  rcases ho.2 with h1 | ⟨g, cap, cur, h1, h2, h3, r⟩
  · exact .inl h1
  · refine .inr ⟨g, cap, cur, h1, h2, ?_, r⟩
    have hg : s.blk = some g := by unfold Sl.blk; rw [h1]; rfl
    have hlt : g < w.heap.size := by
      rcases Nat.lt_or_ge g w.heap.size with h' | h'
      · exact h'
      · rw [Array.getElem?_eq_none h'] at h3; cases h3
    rw [h.block g hlt (hn g hg)]; exact h3
end Go.Proofs.Ytjgijifankaglaa
