/-
  DERIVED. GIVEN WITH THE SEED: THE CARDS: each row of YtdmgchdhilcncaaGreatDoorRows.lean that lists a variable, with what it lists TIED to the program's text (the seventh form; the later family's looks); each row that meets fmt, with fmt's text TOLD by the authors' own Lean function (tested against real Go, not proved from fmt's source: count such statements apart). THE CARD IS WHAT COUNTS. Prove the row's statement (the work); the ties are given (YtdmgchdhilcncaaGreatDoorTie.lean); close each card by the builder's one call (the guide's Derived/Test/ToyasCard.lean, 'card_holds'). Laid BY PROGRAM, IN A SANDBOX (cutbox-door.mjs). By AI agents, Wed Nov 11 2026. No macro, syntax, notation, axiom, sorry.
-/
import Derived.Test.YtdmgchdhilcncaaGreatDoorRows
import GoSem.ClaimSeven
namespace Go.Proofs.YtdmgchdhilcncaaGreatDoor
namespace Rows

/-- THE TIED CARD OF 'wringertop.TopStore'. -/
def topStoreCard : Claim7 := { stood := { row := topStoreRow, standIns := [], harness := (true, "8bf86eb313b188c106e29e2e957663f4989fddaa36072e808a6a6059f270707f"), looks := false }, kinds := [], alts := [], laidByText := true, laidKinds := [.data, .data, .data, .data], laidTests := true, laidLooks := .later }
def TopStoreCardSaid : Prop := Claim7.holds Tryz.pinned (.plain (OpenSpec.ofChange topStoreSpec)) topStoreCard

/-- THE SECOND FORM's CARD OF 'wringertop.TopStore'. -/
def topStoreUptoCard : Claim7 := { stood := { row := topStoreUptoRow, standIns := [], harness := (true, "8bf86eb313b188c106e29e2e957663f4989fddaa36072e808a6a6059f270707f"), looks := false }, kinds := [], alts := [], laidByText := true, laidKinds := [.data, .data, .data, .data], laidTests := true, laidLooks := .later }
def TopStoreUptoCardSaid : Prop := Claim7.holds Tryz.pinned (.plain (OpenSpec.upto topStoreSpec)) topStoreUptoCard
end Rows
end Go.Proofs.YtdmgchdhilcncaaGreatDoor
