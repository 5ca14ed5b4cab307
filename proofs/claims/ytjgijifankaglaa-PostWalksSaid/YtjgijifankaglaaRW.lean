/- Opening a slice of slices of numbers that came in. -/
import Derived.Test.YtjgijifankaglaaRows
import Derived.WalkKit
import Derived.ProofKit
import Derived.OpenShut
import Derived.Deep.Slices
import Derived.ChangeSlices
import Derived.Test.YtjgijifankaglaaMF
namespace Go.Proofs.Ytjgijifankaglaa
open Go Go.RowKit Go.ChangeShapes Go.Proofs.Ytjgijifankaglaa.SX
set_option linter.unusedVariables false

/-- a slice of slices of numbers -/
def IsRows (k : IntKind) (w : World) (s : Sl) (rs : List (Sl × List Int)) : Prop := Rd (fun r : Sl × List Int => (.slice r.1.a r.1.n r.1.c : Value)) w s rs ∧ ∀ r ∈ rs, Rd (fun x => (.int k x : Value)) w r.1 r.2 ∧ ∀ x ∈ r.2, (Lit.int k x).wf = true
theorem cell_of_cells {w : World} {base : Nat} {a : Addr} {v : Value} (h : w.cells? base a 1 = some [v]) : w.cell? a = some v := by
  obtain ⟨_, hlen, hcell⟩ := World.cells?_some h
  have := hcell 0 (by omega)
  simpa [Addr.add] using this
instance : Inhabited Sl := ⟨⟨none, 0, 0⟩⟩
theorem rows_of {H : Type} {enc : TypeId × Value → H} {P : Program} {w : World} {base : Nat} {spare : Nat → Bool} {held : Bool} {t e el : TypeId} {k : IntKind} {fuel len cap : Nat} {a0 : Option Addr} {x : DataW H × List MemPlace}
    (ht : P.underlying t = some (.slice e)) (he : P.underlying e = some (.slice el)) (hel : P.underlying el = some (.int k)) (hc : P.cellsOf e = 1) (hc2 : P.cellsOf el = 1)
    (h : DataW.trod enc P w base spare held fuel t [.slice a0 len cap] = some x) : ∃ rs, IsRows k w ⟨a0, len, cap⟩ rs := by
  rcases Deep.open_slice ht h with ⟨hcs, _⟩ | ⟨a, len', cap', m, fu, D, Pl, hcs, hb, hl, hm, hmm, rfl, hx⟩
  · simp at hcs
    obtain ⟨rfl, rfl, rfl⟩ := hcs
    exact ⟨[], Rd.nil, fun r hr => nomatch hr⟩
  · simp at hcs
    obtain ⟨rfl, rfl, rfl⟩ := hcs
    have each : ∀ i, i < len → ∃ r : Sl × List Int, w.cell? (a.add i) = some (.slice r.1.a r.1.n r.1.c) ∧ Rd (fun x => (.int k x : Value)) w r.1 r.2 ∧ ∀ x ∈ r.2, (Lit.int k x).wf = true := by
      intro i hi
      obtain ⟨cs', h1, h2⟩ := hx i (by split at hmm <;> omega)
      rw [hc, Nat.mul_one] at h1
      rcases open_ints he hel hc2 h2 with ⟨rfl, _⟩ | ⟨x, l, c, zs, rfl, _, hl2, hm2, hz, _, hcell, hwz⟩
      · refine ⟨(⟨none, 0, 0⟩, []), ?_, Rd.nil, fun x hx => nomatch hx⟩
        exact cell_of_cells h1
      · refine ⟨(⟨some x, l, c⟩, zs.take l), cell_of_cells h1, ⟨by rw [List.length_take]; split at hz <;> (show min l zs.length = l; omega), hl2, hm2, fun _ => ⟨x, rfl, fun j hj => ?_⟩⟩, fun n hn => hwz n (List.mem_of_mem_take hn)⟩
        rw [List.length_take] at hj
        rw [hcell j (by omega)]
        simp [List.getD, List.getElem?_eq_getElem (show j < zs.length by omega)]
    obtain ⟨f, hf⟩ := Deep.choose_lt each
    refine ⟨(List.range len).map f, ⟨by simp, by (show len ≤ cap; omega), hm, fun h0 => ⟨a, rfl, fun j hj => ?_⟩⟩, fun r hr => ?_⟩
    · simp at hj
      simpa using (hf j hj).1
    · simp at hr
      obtain ⟨i, hi, rfl⟩ := hr
      exact (hf i hi).2
end Go.Proofs.Ytjgijifankaglaa
