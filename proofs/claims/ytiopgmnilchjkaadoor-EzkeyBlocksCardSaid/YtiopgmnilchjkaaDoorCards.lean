/-
  DERIVED. GIVEN WITH THE SEED: THE CARDS: each row of YtiopgmnilchjkaaDoorRows.lean that lists a variable, with what it lists TIED to the program's text (the seventh form; the later family's looks); each row that meets fmt, with fmt's text TOLD by the authors' own Lean function (tested against real Go, not proved from fmt's source: count such statements apart). THE CARD IS WHAT COUNTS. Prove the row's statement (the work); the ties are given (YtiopgmnilchjkaaDoorTie.lean); close each card by the builder's one call (the guide's Derived/Test/ToyasCard.lean, 'card_holds'). Laid BY PROGRAM, IN A SANDBOX (cutbox-door.mjs). By AI agents, Wed Nov 11 2026. No macro, syntax, notation, axiom, sorry.
-/
import Derived.Test.YtiopgmnilchjkaaDoorRows
import GoSem.ClaimSeven
namespace Go.Proofs.YtiopgmnilchjkaaDoor
namespace Rows

/-- THE TIED CARD OF 'wringerlaw15.EzkeyKeys'. -/
def ezkeyKeysCard : Claim7 := { stood := { row := ezkeyKeysRow, standIns := [], harness := (true, "05be8e3493b1e29e191363d8ffa00a8cf032dd8171051e6b7f7aece2c3a96c18"), looks := false }, kinds := [], alts := [], laidByText := true, laidKinds := [.data, .data, .data, .data], laidTests := true, laidLooks := .later }
def EzkeyKeysCardSaid : Prop := Claim7.holds Tryd.pinned (.plain (OpenSpec.ofChange ezkeyKeysSpec)) ezkeyKeysCard

/-- THE TIED CARD OF 'wringerlaw15.EzkeyBlocks'. -/
def ezkeyBlocksCard : Claim7 := { stood := { row := ezkeyBlocksRow, standIns := [], harness := (true, "05be8e3493b1e29e191363d8ffa00a8cf032dd8171051e6b7f7aece2c3a96c18"), looks := false }, kinds := [], alts := [], laidByText := true, laidKinds := [.data, .data, .data, .data], laidTests := true, laidLooks := .later }
def EzkeyBlocksCardSaid : Prop := Claim7.holds Tryd.pinned (.plain (OpenSpec.ofChange ezkeyBlocksSpec)) ezkeyBlocksCard

/-- THE TIED CARD OF 'wringerlaw15.EzkeyApart'. -/
def ezkeyApartCard : Claim7 := { stood := { row := ezkeyApartRow, standIns := [], harness := (true, "05be8e3493b1e29e191363d8ffa00a8cf032dd8171051e6b7f7aece2c3a96c18"), looks := false }, kinds := [], alts := [], laidByText := true, laidKinds := [.data, .data, .data, .data], laidTests := true, laidLooks := .later }
def EzkeyApartCardSaid : Prop := Claim7.holds Tryd.pinned (.plain (OpenSpec.ofChange ezkeyApartSpec)) ezkeyApartCard

/-- THE TIED CARD OF 'wringerlaw15.EzkeyShift'. -/
def ezkeyShiftCard : Claim7 := { stood := { row := ezkeyShiftRow, standIns := [], harness := (true, "05be8e3493b1e29e191363d8ffa00a8cf032dd8171051e6b7f7aece2c3a96c18"), looks := false }, kinds := [], alts := [], laidByText := true, laidKinds := [.data, .data, .data, .data], laidTests := true, laidLooks := .later }
def EzkeyShiftCardSaid : Prop := Claim7.holds Tryd.pinned (.plain (OpenSpec.ofChange ezkeyShiftSpec)) ezkeyShiftCard

/-- THE TIED CARD OF 'wringerlaw15.EzkeyTen'. -/
def ezkeyTenCard : Claim7 := { stood := { row := ezkeyTenRow, standIns := [], harness := (true, "05be8e3493b1e29e191363d8ffa00a8cf032dd8171051e6b7f7aece2c3a96c18"), looks := false }, kinds := [], alts := [], laidByText := true, laidKinds := [.data, .data, .data, .data], laidTests := true, laidLooks := .later }
def EzkeyTenCardSaid : Prop := Claim7.holds Tryd.pinned (.plain (OpenSpec.ofChange ezkeyTenSpec)) ezkeyTenCard

/-- THE TIED CARD OF 'wringerlaw15.EzkeyOffsets'. -/
def ezkeyOffsetsCard : Claim7 := { stood := { row := ezkeyOffsetsRow, standIns := [], harness := (true, "05be8e3493b1e29e191363d8ffa00a8cf032dd8171051e6b7f7aece2c3a96c18"), looks := false }, kinds := [], alts := [], laidByText := true, laidKinds := [.data, .data, .data, .data], laidTests := true, laidLooks := .later }
def EzkeyOffsetsCardSaid : Prop := Claim7.holds Tryd.pinned (.plain (OpenSpec.ofChange ezkeyOffsetsSpec)) ezkeyOffsetsCard

/-- THE TIED CARD OF 'wringerlaw15.EzkeyRow'. -/
def ezkeyRowCard : Claim7 := { stood := { row := ezkeyRowRow, standIns := [], harness := (true, "05be8e3493b1e29e191363d8ffa00a8cf032dd8171051e6b7f7aece2c3a96c18"), looks := false }, kinds := [], alts := [], laidByText := true, laidKinds := [.data, .data, .data, .data], laidTests := true, laidLooks := .later }
def EzkeyRowCardSaid : Prop := Claim7.holds Tryd.pinned (.plain (OpenSpec.ofChange ezkeyRowSpec)) ezkeyRowCard

/-- THE TIED CARD OF 'wringerlaw16.EzhashParts'. -/
def ezhashPartsCard : Claim7 := { stood := { row := ezhashPartsRow, standIns := [], harness := (true, "05be8e3493b1e29e191363d8ffa00a8cf032dd8171051e6b7f7aece2c3a96c18"), looks := false }, kinds := [], alts := [], laidByText := true, laidKinds := [.data, .data, .data, .data], laidTests := true, laidLooks := .later }
def EzhashPartsCardSaid : Prop := Claim7.holds Tryd.pinned (.plain (OpenSpec.ofChange ezhashPartsSpec)) ezhashPartsCard

/-- THE TIED CARD OF 'wringerlaw16.EzhashOne'. -/
def ezhashOneCard : Claim7 := { stood := { row := ezhashOneRow, standIns := [], harness := (true, "05be8e3493b1e29e191363d8ffa00a8cf032dd8171051e6b7f7aece2c3a96c18"), looks := false }, kinds := [], alts := [], laidByText := true, laidKinds := [.data, .data, .data, .data], laidTests := true, laidLooks := .later }
def EzhashOneCardSaid : Prop := Claim7.holds Tryd.pinned (.plain (OpenSpec.ofChange ezhashOneSpec)) ezhashOneCard

/-- THE TIED CARD OF 'wringerlaw16.EzhashBlocks'. -/
def ezhashBlocksCard : Claim7 := { stood := { row := ezhashBlocksRow, standIns := [], harness := (true, "05be8e3493b1e29e191363d8ffa00a8cf032dd8171051e6b7f7aece2c3a96c18"), looks := false }, kinds := [], alts := [], laidByText := true, laidKinds := [.data, .data, .data, .data], laidTests := true, laidLooks := .later }
def EzhashBlocksCardSaid : Prop := Claim7.holds Tryd.pinned (.plain (OpenSpec.ofChange ezhashBlocksSpec)) ezhashBlocksCard

/-- THE TIED CARD OF 'wringerlaw16.EzhashLast'. -/
def ezhashLastCard : Claim7 := { stood := { row := ezhashLastRow, standIns := [], harness := (true, "05be8e3493b1e29e191363d8ffa00a8cf032dd8171051e6b7f7aece2c3a96c18"), looks := false }, kinds := [], alts := [], laidByText := true, laidKinds := [.data, .data, .data, .data], laidTests := true, laidLooks := .later }
def EzhashLastCardSaid : Prop := Claim7.holds Tryd.pinned (.plain (OpenSpec.ofChange ezhashLastSpec)) ezhashLastCard

/-- THE TIED CARD OF 'wringerlaw16.EzhashHashes'. -/
def ezhashHashesCard : Claim7 := { stood := { row := ezhashHashesRow, standIns := [], harness := (true, "05be8e3493b1e29e191363d8ffa00a8cf032dd8171051e6b7f7aece2c3a96c18"), looks := false }, kinds := [], alts := [], laidByText := true, laidKinds := [.data, .data, .data, .data], laidTests := true, laidLooks := .later }
def EzhashHashesCardSaid : Prop := Claim7.holds Tryd.pinned (.plain (OpenSpec.ofChange ezhashHashesSpec)) ezhashHashesCard

/-- THE TIED CARD OF 'wringerlaw16.EzhashRows'. -/
def ezhashRowsCard : Claim7 := { stood := { row := ezhashRowsRow, standIns := [], harness := (true, "05be8e3493b1e29e191363d8ffa00a8cf032dd8171051e6b7f7aece2c3a96c18"), looks := false }, kinds := [], alts := [], laidByText := true, laidKinds := [.data, .data, .data, .data], laidTests := true, laidLooks := .later }
def EzhashRowsCardSaid : Prop := Claim7.holds Tryd.pinned (.plain (OpenSpec.ofChange ezhashRowsSpec)) ezhashRowsCard

/-- THE SECOND FORM's CARD OF 'wringerlaw15.EzkeyKeys'. -/
def ezkeyKeysUptoCard : Claim7 := { stood := { row := ezkeyKeysUptoRow, standIns := [], harness := (true, "05be8e3493b1e29e191363d8ffa00a8cf032dd8171051e6b7f7aece2c3a96c18"), looks := false }, kinds := [], alts := [], laidByText := true, laidKinds := [.data, .data, .data, .data], laidTests := true, laidLooks := .later }
def EzkeyKeysUptoCardSaid : Prop := Claim7.holds Tryd.pinned (.plain (OpenSpec.upto ezkeyKeysSpec)) ezkeyKeysUptoCard

/-- THE SECOND FORM's CARD OF 'wringerlaw15.EzkeyBlocks'. -/
def ezkeyBlocksUptoCard : Claim7 := { stood := { row := ezkeyBlocksUptoRow, standIns := [], harness := (true, "05be8e3493b1e29e191363d8ffa00a8cf032dd8171051e6b7f7aece2c3a96c18"), looks := false }, kinds := [], alts := [], laidByText := true, laidKinds := [.data, .data, .data, .data], laidTests := true, laidLooks := .later }
def EzkeyBlocksUptoCardSaid : Prop := Claim7.holds Tryd.pinned (.plain (OpenSpec.upto ezkeyBlocksSpec)) ezkeyBlocksUptoCard

/-- THE SECOND FORM's CARD OF 'wringerlaw15.EzkeyApart'. -/
def ezkeyApartUptoCard : Claim7 := { stood := { row := ezkeyApartUptoRow, standIns := [], harness := (true, "05be8e3493b1e29e191363d8ffa00a8cf032dd8171051e6b7f7aece2c3a96c18"), looks := false }, kinds := [], alts := [], laidByText := true, laidKinds := [.data, .data, .data, .data], laidTests := true, laidLooks := .later }
def EzkeyApartUptoCardSaid : Prop := Claim7.holds Tryd.pinned (.plain (OpenSpec.upto ezkeyApartSpec)) ezkeyApartUptoCard

/-- THE SECOND FORM's CARD OF 'wringerlaw15.EzkeyShift'. -/
def ezkeyShiftUptoCard : Claim7 := { stood := { row := ezkeyShiftUptoRow, standIns := [], harness := (true, "05be8e3493b1e29e191363d8ffa00a8cf032dd8171051e6b7f7aece2c3a96c18"), looks := false }, kinds := [], alts := [], laidByText := true, laidKinds := [.data, .data, .data, .data], laidTests := true, laidLooks := .later }
def EzkeyShiftUptoCardSaid : Prop := Claim7.holds Tryd.pinned (.plain (OpenSpec.upto ezkeyShiftSpec)) ezkeyShiftUptoCard

/-- THE SECOND FORM's CARD OF 'wringerlaw15.EzkeyTen'. -/
def ezkeyTenUptoCard : Claim7 := { stood := { row := ezkeyTenUptoRow, standIns := [], harness := (true, "05be8e3493b1e29e191363d8ffa00a8cf032dd8171051e6b7f7aece2c3a96c18"), looks := false }, kinds := [], alts := [], laidByText := true, laidKinds := [.data, .data, .data, .data], laidTests := true, laidLooks := .later }
def EzkeyTenUptoCardSaid : Prop := Claim7.holds Tryd.pinned (.plain (OpenSpec.upto ezkeyTenSpec)) ezkeyTenUptoCard

/-- THE SECOND FORM's CARD OF 'wringerlaw15.EzkeyOffsets'. -/
def ezkeyOffsetsUptoCard : Claim7 := { stood := { row := ezkeyOffsetsUptoRow, standIns := [], harness := (true, "05be8e3493b1e29e191363d8ffa00a8cf032dd8171051e6b7f7aece2c3a96c18"), looks := false }, kinds := [], alts := [], laidByText := true, laidKinds := [.data, .data, .data, .data], laidTests := true, laidLooks := .later }
def EzkeyOffsetsUptoCardSaid : Prop := Claim7.holds Tryd.pinned (.plain (OpenSpec.upto ezkeyOffsetsSpec)) ezkeyOffsetsUptoCard

/-- THE SECOND FORM's CARD OF 'wringerlaw15.EzkeyRow'. -/
def ezkeyRowUptoCard : Claim7 := { stood := { row := ezkeyRowUptoRow, standIns := [], harness := (true, "05be8e3493b1e29e191363d8ffa00a8cf032dd8171051e6b7f7aece2c3a96c18"), looks := false }, kinds := [], alts := [], laidByText := true, laidKinds := [.data, .data, .data, .data], laidTests := true, laidLooks := .later }
def EzkeyRowUptoCardSaid : Prop := Claim7.holds Tryd.pinned (.plain (OpenSpec.upto ezkeyRowSpec)) ezkeyRowUptoCard

/-- THE SECOND FORM's CARD OF 'wringerlaw16.EzhashParts'. -/
def ezhashPartsUptoCard : Claim7 := { stood := { row := ezhashPartsUptoRow, standIns := [], harness := (true, "05be8e3493b1e29e191363d8ffa00a8cf032dd8171051e6b7f7aece2c3a96c18"), looks := false }, kinds := [], alts := [], laidByText := true, laidKinds := [.data, .data, .data, .data], laidTests := true, laidLooks := .later }
def EzhashPartsUptoCardSaid : Prop := Claim7.holds Tryd.pinned (.plain (OpenSpec.upto ezhashPartsSpec)) ezhashPartsUptoCard

/-- THE SECOND FORM's CARD OF 'wringerlaw16.EzhashOne'. -/
def ezhashOneUptoCard : Claim7 := { stood := { row := ezhashOneUptoRow, standIns := [], harness := (true, "05be8e3493b1e29e191363d8ffa00a8cf032dd8171051e6b7f7aece2c3a96c18"), looks := false }, kinds := [], alts := [], laidByText := true, laidKinds := [.data, .data, .data, .data], laidTests := true, laidLooks := .later }
def EzhashOneUptoCardSaid : Prop := Claim7.holds Tryd.pinned (.plain (OpenSpec.upto ezhashOneSpec)) ezhashOneUptoCard

/-- THE SECOND FORM's CARD OF 'wringerlaw16.EzhashBlocks'. -/
def ezhashBlocksUptoCard : Claim7 := { stood := { row := ezhashBlocksUptoRow, standIns := [], harness := (true, "05be8e3493b1e29e191363d8ffa00a8cf032dd8171051e6b7f7aece2c3a96c18"), looks := false }, kinds := [], alts := [], laidByText := true, laidKinds := [.data, .data, .data, .data], laidTests := true, laidLooks := .later }
def EzhashBlocksUptoCardSaid : Prop := Claim7.holds Tryd.pinned (.plain (OpenSpec.upto ezhashBlocksSpec)) ezhashBlocksUptoCard

/-- THE SECOND FORM's CARD OF 'wringerlaw16.EzhashLast'. -/
def ezhashLastUptoCard : Claim7 := { stood := { row := ezhashLastUptoRow, standIns := [], harness := (true, "05be8e3493b1e29e191363d8ffa00a8cf032dd8171051e6b7f7aece2c3a96c18"), looks := false }, kinds := [], alts := [], laidByText := true, laidKinds := [.data, .data, .data, .data], laidTests := true, laidLooks := .later }
def EzhashLastUptoCardSaid : Prop := Claim7.holds Tryd.pinned (.plain (OpenSpec.upto ezhashLastSpec)) ezhashLastUptoCard

/-- THE SECOND FORM's CARD OF 'wringerlaw16.EzhashHashes'. -/
def ezhashHashesUptoCard : Claim7 := { stood := { row := ezhashHashesUptoRow, standIns := [], harness := (true, "05be8e3493b1e29e191363d8ffa00a8cf032dd8171051e6b7f7aece2c3a96c18"), looks := false }, kinds := [], alts := [], laidByText := true, laidKinds := [.data, .data, .data, .data], laidTests := true, laidLooks := .later }
def EzhashHashesUptoCardSaid : Prop := Claim7.holds Tryd.pinned (.plain (OpenSpec.upto ezhashHashesSpec)) ezhashHashesUptoCard

/-- THE SECOND FORM's CARD OF 'wringerlaw16.EzhashRows'. -/
def ezhashRowsUptoCard : Claim7 := { stood := { row := ezhashRowsUptoRow, standIns := [], harness := (true, "05be8e3493b1e29e191363d8ffa00a8cf032dd8171051e6b7f7aece2c3a96c18"), looks := false }, kinds := [], alts := [], laidByText := true, laidKinds := [.data, .data, .data, .data], laidTests := true, laidLooks := .later }
def EzhashRowsUptoCardSaid : Prop := Claim7.holds Tryd.pinned (.plain (OpenSpec.upto ezhashRowsSpec)) ezhashRowsUptoCard
end Rows
end Go.Proofs.YtiopgmnilchjkaaDoor
