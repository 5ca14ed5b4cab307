/-
  DERIVED. GIVEN WITH THE SEED: THE CARDS: each row of YtdeficpjcnhdkaaDoorRows.lean that lists a variable, with what it lists TIED to the program's text (the seventh form; the later family's looks); each row that meets fmt, with fmt's text TOLD by the authors' own Lean function (tested against real Go, not proved from fmt's source: count such statements apart). THE CARD IS WHAT COUNTS. Prove the row's statement (the work); the ties are given (YtdeficpjcnhdkaaDoorTie.lean); close each card by the builder's one call (the guide's Derived/Test/ToyasCard.lean, 'card_holds'). Laid BY PROGRAM, IN A SANDBOX (cutbox-door.mjs). By AI agents, Wed Nov 11 2026. No macro, syntax, notation, axiom, sorry.
-/
import Derived.Test.YtdeficpjcnhdkaaDoorRows
import GoSem.ClaimSeven
namespace Go.Proofs.YtdeficpjcnhdkaaDoor
namespace Rows

/-- THE TIED CARD OF 'turnkeytop.TopNames'. -/
def topNamesCard : Claim7 := { stood := { row := topNamesRow, standIns := [], harness := (true, "d4d95a3bee9e84f4d4445dd42ec31eb94cd1f285d4966225e0b2502d00919e3c"), looks := true }, kinds := [], alts := [], laidByText := true, laidKinds := [.data, .data, .data], laidTests := true, laidLooks := .later }
def TopNamesCardSaid : Prop := Claim7.holds Tryd.pinned (.plain (OpenSpec.ofChange topNamesSpec)) topNamesCard

/-- THE TIED CARD OF 'turnkeytop.TopCodecs'. -/
def topCodecsCard : Claim7 := { stood := { row := topCodecsRow, standIns := [], harness := (true, "d4d95a3bee9e84f4d4445dd42ec31eb94cd1f285d4966225e0b2502d00919e3c"), looks := true }, kinds := [], alts := [], laidByText := true, laidKinds := [.data], laidTests := true, laidLooks := .later }
def TopCodecsCardSaid : Prop := Claim7.holds Tryd.pinned (.plain (OpenSpec.ofChange topCodecsSpec)) topCodecsCard

/-- THE SECOND FORM's CARD OF 'turnkeytop.TopNames'. -/
def topNamesUptoCard : Claim7 := { stood := { row := topNamesUptoRow, standIns := [], harness := (true, "d4d95a3bee9e84f4d4445dd42ec31eb94cd1f285d4966225e0b2502d00919e3c"), looks := true }, kinds := [], alts := [], laidByText := true, laidKinds := [.data, .data, .data], laidTests := true, laidLooks := .later }
def TopNamesUptoCardSaid : Prop := Claim7.holds Tryd.pinned (.plain (OpenSpec.upto topNamesSpec)) topNamesUptoCard

/-- THE SECOND FORM's CARD OF 'turnkeytop.TopCodecs'. -/
def topCodecsUptoCard : Claim7 := { stood := { row := topCodecsUptoRow, standIns := [], harness := (true, "d4d95a3bee9e84f4d4445dd42ec31eb94cd1f285d4966225e0b2502d00919e3c"), looks := true }, kinds := [], alts := [], laidByText := true, laidKinds := [.data], laidTests := true, laidLooks := .later }
def TopCodecsUptoCardSaid : Prop := Claim7.holds Tryd.pinned (.plain (OpenSpec.upto topCodecsSpec)) topCodecsUptoCard
end Rows
end Go.Proofs.YtdeficpjcnhdkaaDoor
