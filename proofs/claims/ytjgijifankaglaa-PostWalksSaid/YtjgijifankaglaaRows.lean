/-
  No cell of these rows narrows 'for every input' (looked for: loops, veiled, ifaces, maps, wideKeys, modest, calm, conditions, laid).
  DERIVED. THE GIVEN ROWS OF THIS SEAT. 10 by the template 'for every input the law returns true; each argument reads behind the call as it read before'; 0 by the template 'total and deterministic' (their statements: YtjgijifankaglaaTotals.lean).
  GIVEN WITH THE SEED: the statements are not yours to turn. If you find one false, say at which input.
  Laid BY PROGRAM, IN A SANDBOX (cutbox-rows.mjs): the forced cells as the released guide's own fill.sh prints them over the translation 42a2c1a9fdb8e8a2… (all of the seat's roots in one cut). By AI agents, Wed Nov 11 2026. No macro, syntax, notation, axiom, sorry.
-/
import Derived.Test.YtjgijifankaglaaChecked
import GoSem.Claim
import GoSem.ClaimJoined
import GoSem.ClaimMapViews
import Derived.JoinedTies
import Derived.KernelRfl
namespace Go.Proofs.Ytjgijifankaglaa
/- THE CELL 'sum', in the pinned program and in every row, IS THE sha256 OF THE DUMP (.gsa) THAT YtjgijifankaglaaProg.lean LOADS. Nothing in Lean hashes anything: it is a label: what it is worth is what the hold of that sum in a sandbox is worth. -/
noncomputable def Try.pinned : Pinned := { name := "ytjgijifankaglaa", sum := "42a2c1a9fdb8e8a21095edf02dd806a216ea37bdc1c1d204986aba3c055ab6cb", checked := Try.checked }
namespace Rows
def none {H : Type} : Left H := { results := [], args := [] }

/-- 'turnkeylaw12.PostSets': WHATEVER THE INPUT: true; the input reads as it did. -/
def postSetsSpec : ChangeSpec := { name := "postSets", fn := fun _ => fun
  | [d1, d2, d3] => { results := [.lit (.bool true)], args := [d1, d2, d3] }
  | _ => none }
def postSetsRow : OpenClaim := { program := "ytjgijifankaglaa", sum := "42a2c1a9fdb8e8a21095edf02dd806a216ea37bdc1c1d204986aba3c055ab6cb", func := "turnkey/turnkeylaw12.PostSets", spec := "postSets", apart := false }
def PostSetsSaid : Prop := postSetsRow.holds Try.pinned (OpenSpec.ofChange postSetsSpec)

/-- ITS FALSE NEIGHBOUR: 'it returns false'. Refute it at one input. -/
def postSetsWrong : ChangeSpec := { name := "postSets", fn := fun _ => fun
  | [d1, d2, d3] => { results := [.lit (.bool false)], args := [d1, d2, d3] }
  | _ => none }
def PostSetsWrongFalsely : Prop := postSetsRow.holds Try.pinned (OpenSpec.ofChange postSetsWrong)

/-- 'turnkeylaw12.PostCodes': WHATEVER THE INPUT: true; the input reads as it did. -/
def postCodesSpec : ChangeSpec := { name := "postCodes", fn := fun _ => fun
  | [d1, d2] => { results := [.lit (.bool true)], args := [d1, d2] }
  | _ => none }
def postCodesRow : OpenClaim := { program := "ytjgijifankaglaa", sum := "42a2c1a9fdb8e8a21095edf02dd806a216ea37bdc1c1d204986aba3c055ab6cb", func := "turnkey/turnkeylaw12.PostCodes", spec := "postCodes", apart := false }
def PostCodesSaid : Prop := postCodesRow.holds Try.pinned (OpenSpec.ofChange postCodesSpec)

/-- ITS FALSE NEIGHBOUR: 'it returns false'. Refute it at one input. -/
def postCodesWrong : ChangeSpec := { name := "postCodes", fn := fun _ => fun
  | [d1, d2] => { results := [.lit (.bool false)], args := [d1, d2] }
  | _ => none }
def PostCodesWrongFalsely : Prop := postCodesRow.holds Try.pinned (OpenSpec.ofChange postCodesWrong)

/-- 'turnkeylaw12.PostAlgebra': WHATEVER THE INPUT: true; the input reads as it did. -/
def postAlgebraSpec : ChangeSpec := { name := "postAlgebra", fn := fun _ => fun
  | [d1, d2, d3] => { results := [.lit (.bool true)], args := [d1, d2, d3] }
  | _ => none }
def postAlgebraRow : OpenClaim := { program := "ytjgijifankaglaa", sum := "42a2c1a9fdb8e8a21095edf02dd806a216ea37bdc1c1d204986aba3c055ab6cb", func := "turnkey/turnkeylaw12.PostAlgebra", spec := "postAlgebra", apart := false }
def PostAlgebraSaid : Prop := postAlgebraRow.holds Try.pinned (OpenSpec.ofChange postAlgebraSpec)

/-- ITS FALSE NEIGHBOUR: 'it returns false'. Refute it at one input. -/
def postAlgebraWrong : ChangeSpec := { name := "postAlgebra", fn := fun _ => fun
  | [d1, d2, d3] => { results := [.lit (.bool false)], args := [d1, d2, d3] }
  | _ => none }
def PostAlgebraWrongFalsely : Prop := postAlgebraRow.holds Try.pinned (OpenSpec.ofChange postAlgebraWrong)

/-- 'turnkeylaw12.PostWalks': WHATEVER THE INPUT: true; the input reads as it did. -/
def postWalksSpec : ChangeSpec := { name := "postWalks", fn := fun _ => fun
  | [d1, d2] => { results := [.lit (.bool true)], args := [d1, d2] }
  | _ => none }
def postWalksRow : OpenClaim := { program := "ytjgijifankaglaa", sum := "42a2c1a9fdb8e8a21095edf02dd806a216ea37bdc1c1d204986aba3c055ab6cb", func := "turnkey/turnkeylaw12.PostWalks", spec := "postWalks", unfollowed := true, recurses := true, apart := false }
def PostWalksSaid : Prop := postWalksRow.holds Try.pinned (OpenSpec.ofChange postWalksSpec)

/-- ITS FALSE NEIGHBOUR: 'it returns false'. Refute it at one input. -/
def postWalksWrong : ChangeSpec := { name := "postWalks", fn := fun _ => fun
  | [d1, d2] => { results := [.lit (.bool false)], args := [d1, d2] }
  | _ => none }
def PostWalksWrongFalsely : Prop := postWalksRow.holds Try.pinned (OpenSpec.ofChange postWalksWrong)

/-- 'turnkeylaw02.SumTells': WHATEVER THE INPUT: true; the input reads as it did. -/
def sumTellsSpec : ChangeSpec := { name := "sumTells", fn := fun _ => fun
  | [d] => { results := [.lit (.bool true)], args := [d] }
  | _ => none }
def sumTellsRow : OpenClaim := { program := "ytjgijifankaglaa", sum := "42a2c1a9fdb8e8a21095edf02dd806a216ea37bdc1c1d204986aba3c055ab6cb", func := "turnkey/turnkeylaw02.SumTells", spec := "sumTells", inPlace := ["math/bits.Add64", "internal/bytealg.IndexByteString", "internal/abi.NoEscape"], apart := false }
def SumTellsSaid : Prop := sumTellsRow.holds Try.pinned (OpenSpec.ofChange sumTellsSpec)

/-- ITS FALSE NEIGHBOUR: 'it returns false'. Refute it at one input. -/
def sumTellsWrong : ChangeSpec := { name := "sumTells", fn := fun _ => fun
  | [d] => { results := [.lit (.bool false)], args := [d] }
  | _ => none }
def SumTellsWrongFalsely : Prop := sumTellsRow.holds Try.pinned (OpenSpec.ofChange sumTellsWrong)

/-- 'turnkeylaw02.SumPieces': WHATEVER THE INPUT: true; the input reads as it did. -/
def sumPiecesSpec : ChangeSpec := { name := "sumPieces", fn := fun _ => fun
  | [d1, d2] => { results := [.lit (.bool true)], args := [d1, d2] }
  | _ => none }
def sumPiecesRow : OpenClaim := { program := "ytjgijifankaglaa", sum := "42a2c1a9fdb8e8a21095edf02dd806a216ea37bdc1c1d204986aba3c055ab6cb", func := "turnkey/turnkeylaw02.SumPieces", spec := "sumPieces", inPlace := ["math/bits.Add64", "internal/bytealg.IndexByteString", "internal/abi.NoEscape"], apart := false }
def SumPiecesSaid : Prop := sumPiecesRow.holds Try.pinned (OpenSpec.ofChange sumPiecesSpec)

/-- ITS FALSE NEIGHBOUR: 'it returns false'. Refute it at one input. -/
def sumPiecesWrong : ChangeSpec := { name := "sumPieces", fn := fun _ => fun
  | [d1, d2] => { results := [.lit (.bool false)], args := [d1, d2] }
  | _ => none }
def SumPiecesWrongFalsely : Prop := sumPiecesRow.holds Try.pinned (OpenSpec.ofChange sumPiecesWrong)

/-- 'turnkeylaw02.SumDigits': WHATEVER THE INPUT: true; the input reads as it did. -/
def sumDigitsSpec : ChangeSpec := { name := "sumDigits", fn := fun _ => fun
  | [d1, d2] => { results := [.lit (.bool true)], args := [d1, d2] }
  | _ => none }
def sumDigitsRow : OpenClaim := { program := "ytjgijifankaglaa", sum := "42a2c1a9fdb8e8a21095edf02dd806a216ea37bdc1c1d204986aba3c055ab6cb", func := "turnkey/turnkeylaw02.SumDigits", spec := "sumDigits", inPlace := ["math/bits.Add64", "internal/bytealg.IndexByteString", "internal/abi.NoEscape"], apart := false }
def SumDigitsSaid : Prop := sumDigitsRow.holds Try.pinned (OpenSpec.ofChange sumDigitsSpec)

/-- ITS FALSE NEIGHBOUR: 'it returns false'. Refute it at one input. -/
def sumDigitsWrong : ChangeSpec := { name := "sumDigits", fn := fun _ => fun
  | [d1, d2] => { results := [.lit (.bool false)], args := [d1, d2] }
  | _ => none }
def SumDigitsWrongFalsely : Prop := sumDigitsRow.holds Try.pinned (OpenSpec.ofChange sumDigitsWrong)

/-- 'turnkeylaw02.SumTurned': WHATEVER THE INPUT: true; the input reads as it did. -/
def sumTurnedSpec : ChangeSpec := { name := "sumTurned", fn := fun _ => fun
  | [d1, d2, d3] => { results := [.lit (.bool true)], args := [d1, d2, d3] }
  | _ => none }
def sumTurnedRow : OpenClaim := { program := "ytjgijifankaglaa", sum := "42a2c1a9fdb8e8a21095edf02dd806a216ea37bdc1c1d204986aba3c055ab6cb", func := "turnkey/turnkeylaw02.SumTurned", spec := "sumTurned", inPlace := ["math/bits.Add64", "internal/bytealg.IndexByteString", "internal/abi.NoEscape"], apart := false }
def SumTurnedSaid : Prop := sumTurnedRow.holds Try.pinned (OpenSpec.ofChange sumTurnedSpec)

/-- ITS FALSE NEIGHBOUR: 'it returns false'. Refute it at one input. -/
def sumTurnedWrong : ChangeSpec := { name := "sumTurned", fn := fun _ => fun
  | [d1, d2, d3] => { results := [.lit (.bool false)], args := [d1, d2, d3] }
  | _ => none }
def SumTurnedWrongFalsely : Prop := sumTurnedRow.holds Try.pinned (OpenSpec.ofChange sumTurnedWrong)

/-- 'turnkeylaw08.PatternBack': WHATEVER THE INPUT: true; the input reads as it did. -/
def patternBackSpec : ChangeSpec := { name := "patternBack", fn := fun _ => fun
  | [d1, d2] => { results := [.lit (.bool true)], args := [d1, d2] }
  | _ => none }
def patternBackRow : OpenClaim := { program := "ytjgijifankaglaa", sum := "42a2c1a9fdb8e8a21095edf02dd806a216ea37bdc1c1d204986aba3c055ab6cb", func := "turnkey/turnkeylaw08.PatternBack", spec := "patternBack", unfollowed := true, recurses := true, apart := false }
def PatternBackSaid : Prop := patternBackRow.holds Try.pinned (OpenSpec.ofChange patternBackSpec)

/-- ITS FALSE NEIGHBOUR: 'it returns false'. Refute it at one input. -/
def patternBackWrong : ChangeSpec := { name := "patternBack", fn := fun _ => fun
  | [d1, d2] => { results := [.lit (.bool false)], args := [d1, d2] }
  | _ => none }
def PatternBackWrongFalsely : Prop := patternBackRow.holds Try.pinned (OpenSpec.ofChange patternBackWrong)

/-- 'turnkeylaw08.PatternJoins': WHATEVER THE INPUT: true; the input reads as it did. -/
def patternJoinsSpec : ChangeSpec := { name := "patternJoins", fn := fun _ => fun
  | [d1, d2, d3] => { results := [.lit (.bool true)], args := [d1, d2, d3] }
  | _ => none }
def patternJoinsRow : OpenClaim := { program := "ytjgijifankaglaa", sum := "42a2c1a9fdb8e8a21095edf02dd806a216ea37bdc1c1d204986aba3c055ab6cb", func := "turnkey/turnkeylaw08.PatternJoins", spec := "patternJoins", unfollowed := true, recurses := true, apart := false }
def PatternJoinsSaid : Prop := patternJoinsRow.holds Try.pinned (OpenSpec.ofChange patternJoinsSpec)

/-- ITS FALSE NEIGHBOUR: 'it returns false'. Refute it at one input. -/
def patternJoinsWrong : ChangeSpec := { name := "patternJoins", fn := fun _ => fun
  | [d1, d2, d3] => { results := [.lit (.bool false)], args := [d1, d2, d3] }
  | _ => none }
def PatternJoinsWrongFalsely : Prop := patternJoinsRow.holds Try.pinned (OpenSpec.ofChange patternJoinsWrong)

/- THE SECOND FORM. 'bulk': how many values and letters a reading holds, each counted each time it is reached (what is shared counts as often as it is met; a slice's spare places count too). A statement '..UptoSaid' is the law's where the arguments, and the package variables that the reading takes, are together of bulk at most 1048576: NARROWER than '..Said'. Prove '..Said' where nothing that the law and all that it calls make is longer than what came in: it says more and counts as full. Else prove '..UptoSaid'. A law counts once. -/
mutual
def uptoBulk {H : Type} : DataW H → Nat
  | .lit (.string bytes) => bytes.length + 1
  | .lit _ => 1
  | .nil => 1
  | .ptr d => uptoBulk d + 1
  | .slice elems spare => uptoBulkAll elems + uptoBulkAll spare + 1
  | .agg parts => uptoBulkAll parts + 1
  | .iface _ d => uptoBulk d + 1
  | .map entries => uptoBulkEntries entries + 1
  | .held _ => 1
def uptoBulkAll {H : Type} : List (DataW H) → Nat
  | [] => 0
  | d :: r => uptoBulk d + uptoBulkAll r
def uptoBulkEntries {H : Type} : List (Lit × DataW H) → Nat
  | [] => 0
  | x :: r => uptoBulkEntry x + uptoBulkEntries r
def uptoBulkEntry {H : Type} : Lit × DataW H → Nat
  | (.string bytes, d) => bytes.length + uptoBulk d + 1
  | (_, d) => uptoBulk d + 1
 end
def uptoSmall : (H : Type) → List (DataW H) → Bool := fun _ ds => decide (uptoBulkAll ds ≤ 1048576)
def OpenSpec.upto (s : _root_.Go.ChangeSpec) : _root_.Go.OpenSpec := { _root_.Go.OpenSpec.ofChange s with cond := some uptoSmall }

/-- 'turnkeylaw12.PostSets', WHERE WHAT IT READS IS OF BULK AT MOST 1048576: true; the input reads as it did. -/
def postSetsUptoRow : OpenClaim := { program := "ytjgijifankaglaa", sum := "42a2c1a9fdb8e8a21095edf02dd806a216ea37bdc1c1d204986aba3c055ab6cb", func := "turnkey/turnkeylaw12.PostSets", spec := "postSets", apart := false, narrowed := true }
def PostSetsUptoSaid : Prop := postSetsUptoRow.holds Try.pinned (OpenSpec.upto postSetsSpec)

/-- 'turnkeylaw12.PostCodes', WHERE WHAT IT READS IS OF BULK AT MOST 1048576: true; the input reads as it did. -/
def postCodesUptoRow : OpenClaim := { program := "ytjgijifankaglaa", sum := "42a2c1a9fdb8e8a21095edf02dd806a216ea37bdc1c1d204986aba3c055ab6cb", func := "turnkey/turnkeylaw12.PostCodes", spec := "postCodes", apart := false, narrowed := true }
def PostCodesUptoSaid : Prop := postCodesUptoRow.holds Try.pinned (OpenSpec.upto postCodesSpec)

/-- 'turnkeylaw12.PostAlgebra', WHERE WHAT IT READS IS OF BULK AT MOST 1048576: true; the input reads as it did. -/
def postAlgebraUptoRow : OpenClaim := { program := "ytjgijifankaglaa", sum := "42a2c1a9fdb8e8a21095edf02dd806a216ea37bdc1c1d204986aba3c055ab6cb", func := "turnkey/turnkeylaw12.PostAlgebra", spec := "postAlgebra", apart := false, narrowed := true }
def PostAlgebraUptoSaid : Prop := postAlgebraUptoRow.holds Try.pinned (OpenSpec.upto postAlgebraSpec)

/-- 'turnkeylaw12.PostWalks', WHERE WHAT IT READS IS OF BULK AT MOST 1048576: true; the input reads as it did. -/
def postWalksUptoRow : OpenClaim := { program := "ytjgijifankaglaa", sum := "42a2c1a9fdb8e8a21095edf02dd806a216ea37bdc1c1d204986aba3c055ab6cb", func := "turnkey/turnkeylaw12.PostWalks", spec := "postWalks", unfollowed := true, recurses := true, apart := false, narrowed := true }
def PostWalksUptoSaid : Prop := postWalksUptoRow.holds Try.pinned (OpenSpec.upto postWalksSpec)

/-- 'turnkeylaw02.SumTells', WHERE WHAT IT READS IS OF BULK AT MOST 1048576: true; the input reads as it did. -/
def sumTellsUptoRow : OpenClaim := { program := "ytjgijifankaglaa", sum := "42a2c1a9fdb8e8a21095edf02dd806a216ea37bdc1c1d204986aba3c055ab6cb", func := "turnkey/turnkeylaw02.SumTells", spec := "sumTells", inPlace := ["math/bits.Add64", "internal/bytealg.IndexByteString", "internal/abi.NoEscape"], apart := false, narrowed := true }
def SumTellsUptoSaid : Prop := sumTellsUptoRow.holds Try.pinned (OpenSpec.upto sumTellsSpec)

/-- 'turnkeylaw02.SumPieces', WHERE WHAT IT READS IS OF BULK AT MOST 1048576: true; the input reads as it did. -/
def sumPiecesUptoRow : OpenClaim := { program := "ytjgijifankaglaa", sum := "42a2c1a9fdb8e8a21095edf02dd806a216ea37bdc1c1d204986aba3c055ab6cb", func := "turnkey/turnkeylaw02.SumPieces", spec := "sumPieces", inPlace := ["math/bits.Add64", "internal/bytealg.IndexByteString", "internal/abi.NoEscape"], apart := false, narrowed := true }
def SumPiecesUptoSaid : Prop := sumPiecesUptoRow.holds Try.pinned (OpenSpec.upto sumPiecesSpec)

/-- 'turnkeylaw02.SumDigits', WHERE WHAT IT READS IS OF BULK AT MOST 1048576: true; the input reads as it did. -/
def sumDigitsUptoRow : OpenClaim := { program := "ytjgijifankaglaa", sum := "42a2c1a9fdb8e8a21095edf02dd806a216ea37bdc1c1d204986aba3c055ab6cb", func := "turnkey/turnkeylaw02.SumDigits", spec := "sumDigits", inPlace := ["math/bits.Add64", "internal/bytealg.IndexByteString", "internal/abi.NoEscape"], apart := false, narrowed := true }
def SumDigitsUptoSaid : Prop := sumDigitsUptoRow.holds Try.pinned (OpenSpec.upto sumDigitsSpec)

/-- 'turnkeylaw02.SumTurned', WHERE WHAT IT READS IS OF BULK AT MOST 1048576: true; the input reads as it did. -/
def sumTurnedUptoRow : OpenClaim := { program := "ytjgijifankaglaa", sum := "42a2c1a9fdb8e8a21095edf02dd806a216ea37bdc1c1d204986aba3c055ab6cb", func := "turnkey/turnkeylaw02.SumTurned", spec := "sumTurned", inPlace := ["math/bits.Add64", "internal/bytealg.IndexByteString", "internal/abi.NoEscape"], apart := false, narrowed := true }
def SumTurnedUptoSaid : Prop := sumTurnedUptoRow.holds Try.pinned (OpenSpec.upto sumTurnedSpec)

/-- 'turnkeylaw08.PatternBack', WHERE WHAT IT READS IS OF BULK AT MOST 1048576: true; the input reads as it did. -/
def patternBackUptoRow : OpenClaim := { program := "ytjgijifankaglaa", sum := "42a2c1a9fdb8e8a21095edf02dd806a216ea37bdc1c1d204986aba3c055ab6cb", func := "turnkey/turnkeylaw08.PatternBack", spec := "patternBack", unfollowed := true, recurses := true, apart := false, narrowed := true }
def PatternBackUptoSaid : Prop := patternBackUptoRow.holds Try.pinned (OpenSpec.upto patternBackSpec)

/-- 'turnkeylaw08.PatternJoins', WHERE WHAT IT READS IS OF BULK AT MOST 1048576: true; the input reads as it did. -/
def patternJoinsUptoRow : OpenClaim := { program := "ytjgijifankaglaa", sum := "42a2c1a9fdb8e8a21095edf02dd806a216ea37bdc1c1d204986aba3c055ab6cb", func := "turnkey/turnkeylaw08.PatternJoins", spec := "patternJoins", unfollowed := true, recurses := true, apart := false, narrowed := true }
def PatternJoinsUptoSaid : Prop := patternJoinsUptoRow.holds Try.pinned (OpenSpec.upto patternJoinsSpec)

end Rows
end Go.Proofs.Ytjgijifankaglaa
