/-
  DERIVED. GIVEN WITH THE SEED: THE CARDS: each row of YtneacgpmjlocjaaGreatDoorRows.lean that lists a variable, with what it lists TIED to the program's text (the seventh form; the later family's looks); each row that meets fmt, with fmt's text TOLD by the authors' own Lean function (tested against real Go, not proved from fmt's source: count such statements apart). THE CARD IS WHAT COUNTS. Prove the row's statement (the work); the ties are given (YtneacgpmjlocjaaGreatDoorTie.lean); close each card by the builder's one call (the guide's Derived/Test/ToyasCard.lean, 'card_holds'). Laid BY PROGRAM, IN A SANDBOX (cutbox-door.mjs). By AI agents, Wed Nov 11 2026. No macro, syntax, notation, axiom, sorry.
-/
import Derived.Test.YtneacgpmjlocjaaGreatDoorRows
import GoSem.ClaimSeven
namespace Go.Proofs.YtneacgpmjlocjaaGreatDoor
namespace Rows

/-- THE TIED CARD OF 'wringertop.TopText'. -/
def topTextCard : Claim7 := { stood := { row := topTextRow, standIns := [], harness := (true, "75bb7efd0546c7067de4497cb6920bd3732ab682747ce154aeab34c8a3fbbcfd"), looks := true }, kinds := [], alts := [], laidByText := true, laidKinds := [.data, .data, .data, .data], laidTests := true, laidLooks := .later }
def TopTextCardSaid : Prop := Claim7.holds Tryz.pinned (.plain (OpenSpec.ofChange topTextSpec)) topTextCard

/-- THE TIED CARD OF 'wringertop.TopWrapped'. -/
def topWrappedCard : Claim7 := { stood := { row := topWrappedRow, standIns := [], harness := (true, "75bb7efd0546c7067de4497cb6920bd3732ab682747ce154aeab34c8a3fbbcfd"), looks := true }, kinds := [], alts := [], laidByText := true, laidKinds := [.data, .data, .data, .data], laidTests := true, laidLooks := .later }
def TopWrappedCardSaid : Prop := Claim7.holds Tryz.pinned (.plain (OpenSpec.ofChange topWrappedSpec)) topWrappedCard

/-- THE SECOND FORM's CARD OF 'wringertop.TopText'. -/
def topTextUptoCard : Claim7 := { stood := { row := topTextUptoRow, standIns := [], harness := (true, "75bb7efd0546c7067de4497cb6920bd3732ab682747ce154aeab34c8a3fbbcfd"), looks := true }, kinds := [], alts := [], laidByText := true, laidKinds := [.data, .data, .data, .data], laidTests := true, laidLooks := .later }
def TopTextUptoCardSaid : Prop := Claim7.holds Tryz.pinned (.plain (OpenSpec.upto topTextSpec)) topTextUptoCard

/-- THE SECOND FORM's CARD OF 'wringertop.TopWrapped'. -/
def topWrappedUptoCard : Claim7 := { stood := { row := topWrappedUptoRow, standIns := [], harness := (true, "75bb7efd0546c7067de4497cb6920bd3732ab682747ce154aeab34c8a3fbbcfd"), looks := true }, kinds := [], alts := [], laidByText := true, laidKinds := [.data, .data, .data, .data], laidTests := true, laidLooks := .later }
def TopWrappedUptoCardSaid : Prop := Claim7.holds Tryz.pinned (.plain (OpenSpec.upto topWrappedSpec)) topWrappedUptoCard
end Rows
end Go.Proofs.YtneacgpmjlocjaaGreatDoor
