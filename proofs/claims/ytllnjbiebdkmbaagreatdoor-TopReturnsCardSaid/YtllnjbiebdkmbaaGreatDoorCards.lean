/-
  DERIVED. GIVEN WITH THE SEED: THE CARDS: each row of YtllnjbiebdkmbaaGreatDoorRows.lean that lists a variable, with what it lists TIED to the program's text (the seventh form; the later family's looks); each row that meets fmt, with fmt's text TOLD by the authors' own Lean function (tested against real Go, not proved from fmt's source: count such statements apart). THE CARD IS WHAT COUNTS. Prove the row's statement (the work); the ties are given (YtllnjbiebdkmbaaGreatDoorTie.lean); close each card by the builder's one call (the guide's Derived/Test/ToyasCard.lean, 'card_holds'). Laid BY PROGRAM, IN A SANDBOX (cutbox-door.mjs). By AI agents, Wed Nov 11 2026. No macro, syntax, notation, axiom, sorry.
-/
import Derived.Test.YtllnjbiebdkmbaaGreatDoorRows
import GoSem.ClaimSeven
namespace Go.Proofs.YtllnjbiebdkmbaaGreatDoor
namespace Rows

/-- THE TIED CARD OF 'wringertop.TopReturns'. -/
def topReturnsCard : Claim7 := { stood := { row := topReturnsRow, standIns := [], harness := (true, "f64ab6af76864ebc7905d1c0be351133263291a7d6ec0d3353c8b5e37ed88f57"), looks := false }, kinds := [], alts := [], laidByText := true, laidKinds := [.data, .data, .data, .data], laidTests := true, laidLooks := .later }
def TopReturnsCardSaid : Prop := Claim7.holds Tryz.pinned (.plain (OpenSpec.ofChange topReturnsSpec)) topReturnsCard

/-- THE SECOND FORM's CARD OF 'wringertop.TopReturns'. -/
def topReturnsUptoCard : Claim7 := { stood := { row := topReturnsUptoRow, standIns := [], harness := (true, "f64ab6af76864ebc7905d1c0be351133263291a7d6ec0d3353c8b5e37ed88f57"), looks := false }, kinds := [], alts := [], laidByText := true, laidKinds := [.data, .data, .data, .data], laidTests := true, laidLooks := .later }
def TopReturnsUptoCardSaid : Prop := Claim7.holds Tryz.pinned (.plain (OpenSpec.upto topReturnsSpec)) topReturnsUptoCard
end Rows
end Go.Proofs.YtllnjbiebdkmbaaGreatDoor
