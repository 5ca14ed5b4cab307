/-
  No cell of these rows narrows 'for every input' (looked for: loops, veiled, ifaces, maps, wideKeys, modest, calm, conditions, laid).
  DERIVED. THE GIVEN ROWS OF THIS SEAT. 9 by the template 'for every input the law returns true; each argument reads behind the call as it read before'; 0 by the template 'total and deterministic' (their statements: YthhcaaellhdkiaaTotals.lean).
  GIVEN WITH THE SEED: the statements are not yours to turn. If you find one false, say at which input.
  Laid BY PROGRAM, IN A SANDBOX (cutbox-rows.mjs): the forced cells as the released guide's own fill.sh prints them over the translation 05a84eb104a573ca… (all of the seat's roots in one cut). By AI agents, Wed Nov 11 2026. No macro, syntax, notation, axiom, sorry.
-/
import Derived.Test.YthhcaaellhdkiaaChecked
import GoSem.Claim
import GoSem.ClaimJoined
import GoSem.ClaimMapViews
import Derived.JoinedTies
import Derived.KernelRfl
namespace Go.Proofs.Ythhcaaellhdkiaa
/- THE CELL 'sum', in the pinned program and in every row, IS THE sha256 OF THE DUMP (.gsa) THAT YthhcaaellhdkiaaProg.lean LOADS. Nothing in Lean hashes anything: it is a label: what it is worth is what the hold of that sum in a sandbox is worth. -/
noncomputable def Try.pinned : Pinned := { name := "ythhcaaellhdkiaa", sum := "05a84eb104a573ca317145ea5a6ee717dbbddcf7b849dcda6586e173b0308921", checked := Try.checked }
namespace Rows
def none {H : Type} : Left H := { results := [], args := [] }

/-- 'turnkeylaw01.NumPuts': WHATEVER THE INPUT: true; the input reads as it did. -/
def numPutsSpec : ChangeSpec := { name := "numPuts", fn := fun _ => fun
  | [d1, d2, d3, d4] => { results := [.lit (.bool true)], args := [d1, d2, d3, d4] }
  | _ => none }
def numPutsRow : OpenClaim := { program := "ythhcaaellhdkiaa", sum := "05a84eb104a573ca317145ea5a6ee717dbbddcf7b849dcda6586e173b0308921", func := "turnkey/turnkeylaw01.NumPuts", spec := "numPuts", apart := false }
def NumPutsSaid : Prop := numPutsRow.holds Try.pinned (OpenSpec.ofChange numPutsSpec)

/-- ITS FALSE NEIGHBOUR: 'it returns false'. Refute it at one input. -/
def numPutsWrong : ChangeSpec := { name := "numPuts", fn := fun _ => fun
  | [d1, d2, d3, d4] => { results := [.lit (.bool false)], args := [d1, d2, d3, d4] }
  | _ => none }
def NumPutsWrongFalsely : Prop := numPutsRow.holds Try.pinned (OpenSpec.ofChange numPutsWrong)

/-- 'turnkeylaw01.NumGets': WHATEVER THE INPUT: true; the input reads as it did. -/
def numGetsSpec : ChangeSpec := { name := "numGets", fn := fun _ => fun
  | [d1, d2] => { results := [.lit (.bool true)], args := [d1, d2] }
  | _ => none }
def numGetsRow : OpenClaim := { program := "ythhcaaellhdkiaa", sum := "05a84eb104a573ca317145ea5a6ee717dbbddcf7b849dcda6586e173b0308921", func := "turnkey/turnkeylaw01.NumGets", spec := "numGets", apart := false }
def NumGetsSaid : Prop := numGetsRow.holds Try.pinned (OpenSpec.ofChange numGetsSpec)

/-- ITS FALSE NEIGHBOUR: 'it returns false'. Refute it at one input. -/
def numGetsWrong : ChangeSpec := { name := "numGets", fn := fun _ => fun
  | [d1, d2] => { results := [.lit (.bool false)], args := [d1, d2] }
  | _ => none }
def NumGetsWrongFalsely : Prop := numGetsRow.holds Try.pinned (OpenSpec.ofChange numGetsWrong)

/-- 'turnkeylaw01.NumBack': WHATEVER THE INPUT: true; the input reads as it did. -/
def numBackSpec : ChangeSpec := { name := "numBack", fn := fun _ => fun
  | [d1, d2, d3, d4] => { results := [.lit (.bool true)], args := [d1, d2, d3, d4] }
  | _ => none }
def numBackRow : OpenClaim := { program := "ythhcaaellhdkiaa", sum := "05a84eb104a573ca317145ea5a6ee717dbbddcf7b849dcda6586e173b0308921", func := "turnkey/turnkeylaw01.NumBack", spec := "numBack", apart := false }
def NumBackSaid : Prop := numBackRow.holds Try.pinned (OpenSpec.ofChange numBackSpec)

/-- ITS FALSE NEIGHBOUR: 'it returns false'. Refute it at one input. -/
def numBackWrong : ChangeSpec := { name := "numBack", fn := fun _ => fun
  | [d1, d2, d3, d4] => { results := [.lit (.bool false)], args := [d1, d2, d3, d4] }
  | _ => none }
def NumBackWrongFalsely : Prop := numBackRow.holds Try.pinned (OpenSpec.ofChange numBackWrong)

/-- 'turnkeylaw15.QuotaBounds': WHATEVER THE INPUT: true; the input reads as it did. -/
def quotaBoundsSpec : ChangeSpec := { name := "quotaBounds", fn := fun _ => fun
  | [d1, d2, d3] => { results := [.lit (.bool true)], args := [d1, d2, d3] }
  | _ => none }
def quotaBoundsRow : OpenClaim := { program := "ythhcaaellhdkiaa", sum := "05a84eb104a573ca317145ea5a6ee717dbbddcf7b849dcda6586e173b0308921", func := "turnkey/turnkeylaw15.QuotaBounds", spec := "quotaBounds", apart := false }
def QuotaBoundsSaid : Prop := quotaBoundsRow.holds Try.pinned (OpenSpec.ofChange quotaBoundsSpec)

/-- ITS FALSE NEIGHBOUR: 'it returns false'. Refute it at one input. -/
def quotaBoundsWrong : ChangeSpec := { name := "quotaBounds", fn := fun _ => fun
  | [d1, d2, d3] => { results := [.lit (.bool false)], args := [d1, d2, d3] }
  | _ => none }
def QuotaBoundsWrongFalsely : Prop := quotaBoundsRow.holds Try.pinned (OpenSpec.ofChange quotaBoundsWrong)

/-- 'turnkeylaw03.BitsWrites': WHATEVER THE INPUT: true; the input reads as it did. -/
def bitsWritesSpec : ChangeSpec := { name := "bitsWrites", fn := fun _ => fun
  | [d] => { results := [.lit (.bool true)], args := [d] }
  | _ => none }
def bitsWritesRow : OpenClaim := { program := "ythhcaaellhdkiaa", sum := "05a84eb104a573ca317145ea5a6ee717dbbddcf7b849dcda6586e173b0308921", func := "turnkey/turnkeylaw03.BitsWrites", spec := "bitsWrites", apart := false }
def BitsWritesSaid : Prop := bitsWritesRow.holds Try.pinned (OpenSpec.ofChange bitsWritesSpec)

/-- ITS FALSE NEIGHBOUR: 'it returns false'. Refute it at one input. -/
def bitsWritesWrong : ChangeSpec := { name := "bitsWrites", fn := fun _ => fun
  | [d] => { results := [.lit (.bool false)], args := [d] }
  | _ => none }
def BitsWritesWrongFalsely : Prop := bitsWritesRow.holds Try.pinned (OpenSpec.ofChange bitsWritesWrong)

/-- 'turnkeylaw03.BitsReads': WHATEVER THE INPUT: true; the input reads as it did. -/
def bitsReadsSpec : ChangeSpec := { name := "bitsReads", fn := fun _ => fun
  | [d1, d2] => { results := [.lit (.bool true)], args := [d1, d2] }
  | _ => none }
def bitsReadsRow : OpenClaim := { program := "ythhcaaellhdkiaa", sum := "05a84eb104a573ca317145ea5a6ee717dbbddcf7b849dcda6586e173b0308921", func := "turnkey/turnkeylaw03.BitsReads", spec := "bitsReads", apart := false }
def BitsReadsSaid : Prop := bitsReadsRow.holds Try.pinned (OpenSpec.ofChange bitsReadsSpec)

/-- ITS FALSE NEIGHBOUR: 'it returns false'. Refute it at one input. -/
def bitsReadsWrong : ChangeSpec := { name := "bitsReads", fn := fun _ => fun
  | [d1, d2] => { results := [.lit (.bool false)], args := [d1, d2] }
  | _ => none }
def BitsReadsWrongFalsely : Prop := bitsReadsRow.holds Try.pinned (OpenSpec.ofChange bitsReadsWrong)

/-- 'turnkeylaw03.BitsBack': WHATEVER THE INPUT: true; the input reads as it did. -/
def bitsBackSpec : ChangeSpec := { name := "bitsBack", fn := fun _ => fun
  | [d1, d2, d3] => { results := [.lit (.bool true)], args := [d1, d2, d3] }
  | _ => none }
def bitsBackRow : OpenClaim := { program := "ythhcaaellhdkiaa", sum := "05a84eb104a573ca317145ea5a6ee717dbbddcf7b849dcda6586e173b0308921", func := "turnkey/turnkeylaw03.BitsBack", spec := "bitsBack", apart := false }
def BitsBackSaid : Prop := bitsBackRow.holds Try.pinned (OpenSpec.ofChange bitsBackSpec)

/-- ITS FALSE NEIGHBOUR: 'it returns false'. Refute it at one input. -/
def bitsBackWrong : ChangeSpec := { name := "bitsBack", fn := fun _ => fun
  | [d1, d2, d3] => { results := [.lit (.bool false)], args := [d1, d2, d3] }
  | _ => none }
def BitsBackWrongFalsely : Prop := bitsBackRow.holds Try.pinned (OpenSpec.ofChange bitsBackWrong)

/-- 'turnkeylaw15.QuotaApart': WHATEVER THE INPUT: true; the input reads as it did. -/
def quotaApartSpec : ChangeSpec := { name := "quotaApart", fn := fun _ => fun
  | [d1, d2] => { results := [.lit (.bool true)], args := [d1, d2] }
  | _ => none }
def quotaApartRow : OpenClaim := { program := "ythhcaaellhdkiaa", sum := "05a84eb104a573ca317145ea5a6ee717dbbddcf7b849dcda6586e173b0308921", func := "turnkey/turnkeylaw15.QuotaApart", spec := "quotaApart", apart := false }
def QuotaApartSaid : Prop := quotaApartRow.holds Try.pinned (OpenSpec.ofChange quotaApartSpec)

/-- ITS FALSE NEIGHBOUR: 'it returns false'. Refute it at one input. -/
def quotaApartWrong : ChangeSpec := { name := "quotaApart", fn := fun _ => fun
  | [d1, d2] => { results := [.lit (.bool false)], args := [d1, d2] }
  | _ => none }
def QuotaApartWrongFalsely : Prop := quotaApartRow.holds Try.pinned (OpenSpec.ofChange quotaApartWrong)

/-- 'turnkeylaw15.QuotaPlays': WHATEVER THE INPUT: true; the input reads as it did. -/
def quotaPlaysSpec : ChangeSpec := { name := "quotaPlays", fn := fun _ => fun
  | [d] => { results := [.lit (.bool true)], args := [d] }
  | _ => none }
def quotaPlaysRow : OpenClaim := { program := "ythhcaaellhdkiaa", sum := "05a84eb104a573ca317145ea5a6ee717dbbddcf7b849dcda6586e173b0308921", func := "turnkey/turnkeylaw15.QuotaPlays", spec := "quotaPlays", apart := false }
def QuotaPlaysSaid : Prop := quotaPlaysRow.holds Try.pinned (OpenSpec.ofChange quotaPlaysSpec)

/-- ITS FALSE NEIGHBOUR: 'it returns false'. Refute it at one input. -/
def quotaPlaysWrong : ChangeSpec := { name := "quotaPlays", fn := fun _ => fun
  | [d] => { results := [.lit (.bool false)], args := [d] }
  | _ => none }
def QuotaPlaysWrongFalsely : Prop := quotaPlaysRow.holds Try.pinned (OpenSpec.ofChange quotaPlaysWrong)

/- THE SECOND FORM. 'bulk': how many values and letters a reading holds, each counted each time it is reached (what is shared counts as often as it is met; a slice's spare places count too). A statement '..UptoSaid' is the law's where the arguments, and the package variables that the reading takes, are together of bulk at most 1048576: NARROWER than '..Said'. Prove '..Said' where nothing that the law and all that it calls make is longer than what came in: it says more and counts as full. Else prove '..UptoSaid'. A law counts once. -/
mutual
def uptoBulk {H : Type} : DataW H → Nat
  | .lit (.string bytes) => bytes.length + 1
  | .lit _ => 1
  | .nil => 1
  | .ptr d => uptoBulk d + 1
  | .slice elems spare => uptoBulkAll elems + uptoBulkAll spare + 1
  | .agg parts => uptoBulkAll parts + 1
  | .iface _ d => uptoBulk d + 1
  | .map entries => uptoBulkEntries entries + 1
  | .held _ => 1
def uptoBulkAll {H : Type} : List (DataW H) → Nat
  | [] => 0
  | d :: r => uptoBulk d + uptoBulkAll r
def uptoBulkEntries {H : Type} : List (Lit × DataW H) → Nat
  | [] => 0
  | x :: r => uptoBulkEntry x + uptoBulkEntries r
def uptoBulkEntry {H : Type} : Lit × DataW H → Nat
  | (.string bytes, d) => bytes.length + uptoBulk d + 1
  | (_, d) => uptoBulk d + 1
 end
def uptoSmall : (H : Type) → List (DataW H) → Bool := fun _ ds => decide (uptoBulkAll ds ≤ 1048576)
def OpenSpec.upto (s : _root_.Go.ChangeSpec) : _root_.Go.OpenSpec := { _root_.Go.OpenSpec.ofChange s with cond := some uptoSmall }

/-- 'turnkeylaw01.NumPuts', WHERE WHAT IT READS IS OF BULK AT MOST 1048576: true; the input reads as it did. -/
def numPutsUptoRow : OpenClaim := { program := "ythhcaaellhdkiaa", sum := "05a84eb104a573ca317145ea5a6ee717dbbddcf7b849dcda6586e173b0308921", func := "turnkey/turnkeylaw01.NumPuts", spec := "numPuts", apart := false, narrowed := true }
def NumPutsUptoSaid : Prop := numPutsUptoRow.holds Try.pinned (OpenSpec.upto numPutsSpec)

/-- 'turnkeylaw01.NumGets', WHERE WHAT IT READS IS OF BULK AT MOST 1048576: true; the input reads as it did. -/
def numGetsUptoRow : OpenClaim := { program := "ythhcaaellhdkiaa", sum := "05a84eb104a573ca317145ea5a6ee717dbbddcf7b849dcda6586e173b0308921", func := "turnkey/turnkeylaw01.NumGets", spec := "numGets", apart := false, narrowed := true }
def NumGetsUptoSaid : Prop := numGetsUptoRow.holds Try.pinned (OpenSpec.upto numGetsSpec)

/-- 'turnkeylaw01.NumBack', WHERE WHAT IT READS IS OF BULK AT MOST 1048576: true; the input reads as it did. -/
def numBackUptoRow : OpenClaim := { program := "ythhcaaellhdkiaa", sum := "05a84eb104a573ca317145ea5a6ee717dbbddcf7b849dcda6586e173b0308921", func := "turnkey/turnkeylaw01.NumBack", spec := "numBack", apart := false, narrowed := true }
def NumBackUptoSaid : Prop := numBackUptoRow.holds Try.pinned (OpenSpec.upto numBackSpec)

/-- 'turnkeylaw15.QuotaBounds', WHERE WHAT IT READS IS OF BULK AT MOST 1048576: true; the input reads as it did. -/
def quotaBoundsUptoRow : OpenClaim := { program := "ythhcaaellhdkiaa", sum := "05a84eb104a573ca317145ea5a6ee717dbbddcf7b849dcda6586e173b0308921", func := "turnkey/turnkeylaw15.QuotaBounds", spec := "quotaBounds", apart := false, narrowed := true }
def QuotaBoundsUptoSaid : Prop := quotaBoundsUptoRow.holds Try.pinned (OpenSpec.upto quotaBoundsSpec)

/-- 'turnkeylaw03.BitsWrites', WHERE WHAT IT READS IS OF BULK AT MOST 1048576: true; the input reads as it did. -/
def bitsWritesUptoRow : OpenClaim := { program := "ythhcaaellhdkiaa", sum := "05a84eb104a573ca317145ea5a6ee717dbbddcf7b849dcda6586e173b0308921", func := "turnkey/turnkeylaw03.BitsWrites", spec := "bitsWrites", apart := false, narrowed := true }
def BitsWritesUptoSaid : Prop := bitsWritesUptoRow.holds Try.pinned (OpenSpec.upto bitsWritesSpec)

/-- 'turnkeylaw03.BitsReads', WHERE WHAT IT READS IS OF BULK AT MOST 1048576: true; the input reads as it did. -/
def bitsReadsUptoRow : OpenClaim := { program := "ythhcaaellhdkiaa", sum := "05a84eb104a573ca317145ea5a6ee717dbbddcf7b849dcda6586e173b0308921", func := "turnkey/turnkeylaw03.BitsReads", spec := "bitsReads", apart := false, narrowed := true }
def BitsReadsUptoSaid : Prop := bitsReadsUptoRow.holds Try.pinned (OpenSpec.upto bitsReadsSpec)

/-- 'turnkeylaw03.BitsBack', WHERE WHAT IT READS IS OF BULK AT MOST 1048576: true; the input reads as it did. -/
def bitsBackUptoRow : OpenClaim := { program := "ythhcaaellhdkiaa", sum := "05a84eb104a573ca317145ea5a6ee717dbbddcf7b849dcda6586e173b0308921", func := "turnkey/turnkeylaw03.BitsBack", spec := "bitsBack", apart := false, narrowed := true }
def BitsBackUptoSaid : Prop := bitsBackUptoRow.holds Try.pinned (OpenSpec.upto bitsBackSpec)

/-- 'turnkeylaw15.QuotaApart', WHERE WHAT IT READS IS OF BULK AT MOST 1048576: true; the input reads as it did. -/
def quotaApartUptoRow : OpenClaim := { program := "ythhcaaellhdkiaa", sum := "05a84eb104a573ca317145ea5a6ee717dbbddcf7b849dcda6586e173b0308921", func := "turnkey/turnkeylaw15.QuotaApart", spec := "quotaApart", apart := false, narrowed := true }
def QuotaApartUptoSaid : Prop := quotaApartUptoRow.holds Try.pinned (OpenSpec.upto quotaApartSpec)

/-- 'turnkeylaw15.QuotaPlays', WHERE WHAT IT READS IS OF BULK AT MOST 1048576: true; the input reads as it did. -/
def quotaPlaysUptoRow : OpenClaim := { program := "ythhcaaellhdkiaa", sum := "05a84eb104a573ca317145ea5a6ee717dbbddcf7b849dcda6586e173b0308921", func := "turnkey/turnkeylaw15.QuotaPlays", spec := "quotaPlays", apart := false, narrowed := true }
def QuotaPlaysUptoSaid : Prop := quotaPlaysUptoRow.holds Try.pinned (OpenSpec.upto quotaPlaysSpec)

end Rows
end Go.Proofs.Ythhcaaellhdkiaa
