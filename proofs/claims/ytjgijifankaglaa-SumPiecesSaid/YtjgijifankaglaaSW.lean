/- Scopes and labels (no jump goes to them but by exits). -/
import Derived.Test.YtjgijifankaglaaST
import Derived.Scope
namespace Go.Proofs.Ytjgijifankaglaa.SX
open Go
section
variable {P : Program} {n : Nat} {f : Fr} {w : World} {Q : Exit → Act → World → Prop}
theorem y_scope {c : Code} (h : WC P c (Exit.noGoto Q) n f w) : WC P (.scope c) Q n f w := ⟨wp_scope_straight h.out⟩
theorem y_label {l : Nat} (h : WE Q .normal n f w) : WC P (.label l) Q n f w := ⟨wp_label h.out⟩
theorem e_scope_n (h : WE Q .normal n f w) : WE (Exit.noGoto Q) .normal n f w := ⟨h.out⟩
theorem e_scope_x {i : Nat} (h : WE Q (.exit i) n f w) : WE (Exit.noGoto Q) (.exit i) n f w := ⟨h.out⟩
theorem e_scope_r (h : WE Q .ret n f w) : WE (Exit.noGoto Q) .ret n f w := ⟨h.out⟩
end
end Go.Proofs.Ytjgijifankaglaa.SX
