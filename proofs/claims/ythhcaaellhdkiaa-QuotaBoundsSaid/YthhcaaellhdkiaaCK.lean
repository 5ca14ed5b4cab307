/- A slice of numbers that came in, of any kind. -/
import Derived.Test.YthhcaaellhdkiaaCJ
namespace Go.Proofs.Ythhcaaellhdkiaa
open Go Go.RowKit Go.Proofs.Ythhcaaellhdkiaa.SX
set_option linter.unusedVariables false

theorem rd_rowk {w : World} {a : Option Addr} {len cap : Nat} {zs : List Int} {k : IntKind} (h : (a = none ∧ len = 0 ∧ cap = 0 ∧ zs = []) ∨
  ∃ x, a = some x ∧ len ≤ cap ∧ cap ≤ maxLen ∧ zs.length = cap ∧ (∀ i, i < zs.length → w.cell? (x.add i) = some (.int k (zs.getD i 0))) ∧ ∀ n ∈ zs, (Lit.int k n).wf = true) : ∃ xs : List Int, Rd (fun x => .int k x) w ⟨a, len, cap⟩ xs ∧ ∀ x ∈ xs, (Lit.int k x).wf = true := by
  rcases h with ⟨rfl, rfl, rfl, rfl⟩ | ⟨x, rfl, hl, hm, hz, hc, hw⟩
  · exact ⟨[], Rd.nil, fun x hx => by simp at hx⟩
  · refine ⟨zs.take len, ⟨by simp; omega, hl, hm, fun _ => ⟨x, rfl, fun j hj => ?_⟩⟩, fun n hn => hw n (List.mem_of_mem_take hn)⟩
    simp at hj
    rw [hc j (by omega)]
    simp [List.getD, List.getElem?_eq_getElem (show j < zs.length by omega)]
end Go.Proofs.Ythhcaaellhdkiaa
