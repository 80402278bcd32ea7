/-
  DERIVED. GIVEN WITH THE SEED: THE CARDS: each row of YtmgopjeaehmbfaaDoorRows.lean that lists a variable, with what it lists TIED to the program's text (the seventh form; the later family's looks); each row that meets fmt, with fmt's text TOLD by the authors' own Lean function (tested against real Go, not proved from fmt's source: count such statements apart). THE CARD IS WHAT COUNTS. Prove the row's statement (the work); the ties are given (YtmgopjeaehmbfaaDoorTie.lean); close each card by the builder's one call (the guide's Derived/Test/ToyasCard.lean, 'card_holds'). Laid BY PROGRAM, IN A SANDBOX (cutbox-door.mjs). By AI agents, Wed Nov 11 2026. No macro, syntax, notation, axiom, sorry.
-/
import Derived.Test.YtmgopjeaehmbfaaDoorRows
import GoSem.ClaimSeven
namespace Go.Proofs.YtmgopjeaehmbfaaDoor
namespace Rows

/-- THE TIED CARD OF 'wringerlaw16.EzhashParts'. -/
def ezhashPartsCard : Claim7 := { stood := { row := ezhashPartsRow, standIns := [], harness := (true, "2d59add82c94566b580b002f4c0940fdac8199e3002fe50fd04805472ecb882b"), looks := false }, kinds := [], alts := [], laidByText := true, laidKinds := [.data, .data, .data, .data], laidTests := true, laidLooks := .later }
def EzhashPartsCardSaid : Prop := Claim7.holds Tryd.pinned (.plain (OpenSpec.ofChange ezhashPartsSpec)) ezhashPartsCard

/-- THE TIED CARD OF 'wringerlaw16.EzhashOne'. -/
def ezhashOneCard : Claim7 := { stood := { row := ezhashOneRow, standIns := [], harness := (true, "2d59add82c94566b580b002f4c0940fdac8199e3002fe50fd04805472ecb882b"), looks := false }, kinds := [], alts := [], laidByText := true, laidKinds := [.data, .data, .data, .data], laidTests := true, laidLooks := .later }
def EzhashOneCardSaid : Prop := Claim7.holds Tryd.pinned (.plain (OpenSpec.ofChange ezhashOneSpec)) ezhashOneCard

/-- THE TIED CARD OF 'wringerlaw16.EzhashBlocks'. -/
def ezhashBlocksCard : Claim7 := { stood := { row := ezhashBlocksRow, standIns := [], harness := (true, "2d59add82c94566b580b002f4c0940fdac8199e3002fe50fd04805472ecb882b"), looks := false }, kinds := [], alts := [], laidByText := true, laidKinds := [.data, .data, .data, .data], laidTests := true, laidLooks := .later }
def EzhashBlocksCardSaid : Prop := Claim7.holds Tryd.pinned (.plain (OpenSpec.ofChange ezhashBlocksSpec)) ezhashBlocksCard

/-- THE TIED CARD OF 'wringerlaw16.EzhashLast'. -/
def ezhashLastCard : Claim7 := { stood := { row := ezhashLastRow, standIns := [], harness := (true, "2d59add82c94566b580b002f4c0940fdac8199e3002fe50fd04805472ecb882b"), looks := false }, kinds := [], alts := [], laidByText := true, laidKinds := [.data, .data, .data, .data], laidTests := true, laidLooks := .later }
def EzhashLastCardSaid : Prop := Claim7.holds Tryd.pinned (.plain (OpenSpec.ofChange ezhashLastSpec)) ezhashLastCard

/-- THE TIED CARD OF 'wringerlaw16.EzhashHashes'. -/
def ezhashHashesCard : Claim7 := { stood := { row := ezhashHashesRow, standIns := [], harness := (true, "2d59add82c94566b580b002f4c0940fdac8199e3002fe50fd04805472ecb882b"), looks := false }, kinds := [], alts := [], laidByText := true, laidKinds := [.data, .data, .data, .data], laidTests := true, laidLooks := .later }
def EzhashHashesCardSaid : Prop := Claim7.holds Tryd.pinned (.plain (OpenSpec.ofChange ezhashHashesSpec)) ezhashHashesCard

/-- THE TIED CARD OF 'wringerlaw16.EzhashRows'. -/
def ezhashRowsCard : Claim7 := { stood := { row := ezhashRowsRow, standIns := [], harness := (true, "2d59add82c94566b580b002f4c0940fdac8199e3002fe50fd04805472ecb882b"), looks := false }, kinds := [], alts := [], laidByText := true, laidKinds := [.data, .data, .data, .data], laidTests := true, laidLooks := .later }
def EzhashRowsCardSaid : Prop := Claim7.holds Tryd.pinned (.plain (OpenSpec.ofChange ezhashRowsSpec)) ezhashRowsCard

/-- THE TIED CARD OF 'wringerlaw20.CoreBack'. -/
def coreBackCard : Claim7 := { stood := { row := coreBackRow, standIns := [], harness := (true, "2d59add82c94566b580b002f4c0940fdac8199e3002fe50fd04805472ecb882b"), looks := false }, kinds := [], alts := [], laidByText := true, laidKinds := [.data, .data, .data, .data], laidTests := true, laidLooks := .later }
def CoreBackCardSaid : Prop := Claim7.holds Tryd.pinned (.plain (OpenSpec.ofChange coreBackSpec)) coreBackCard

/-- THE TIED CARD OF 'wringerlaw20.CoreApart'. -/
def coreApartCard : Claim7 := { stood := { row := coreApartRow, standIns := [], harness := (true, "2d59add82c94566b580b002f4c0940fdac8199e3002fe50fd04805472ecb882b"), looks := false }, kinds := [], alts := [], laidByText := true, laidKinds := [.data, .data, .data, .data], laidTests := true, laidLooks := .later }
def CoreApartCardSaid : Prop := Claim7.holds Tryd.pinned (.plain (OpenSpec.ofChange coreApartSpec)) coreApartCard

/-- THE TIED CARD OF 'wringerlaw20.CoreTwo'. -/
def coreTwoCard : Claim7 := { stood := { row := coreTwoRow, standIns := [], harness := (true, "2d59add82c94566b580b002f4c0940fdac8199e3002fe50fd04805472ecb882b"), looks := false }, kinds := [], alts := [], laidByText := true, laidKinds := [.data, .data, .data, .data], laidTests := true, laidLooks := .later }
def CoreTwoCardSaid : Prop := Claim7.holds Tryd.pinned (.plain (OpenSpec.ofChange coreTwoSpec)) coreTwoCard

/-- THE TIED CARD OF 'wringerlaw20.CoreMiddle'. -/
def coreMiddleCard : Claim7 := { stood := { row := coreMiddleRow, standIns := [], harness := (true, "2d59add82c94566b580b002f4c0940fdac8199e3002fe50fd04805472ecb882b"), looks := false }, kinds := [], alts := [], laidByText := true, laidKinds := [.data, .data, .data, .data], laidTests := true, laidLooks := .later }
def CoreMiddleCardSaid : Prop := Claim7.holds Tryd.pinned (.plain (OpenSpec.ofChange coreMiddleSpec)) coreMiddleCard

/-- THE TIED CARD OF 'wringerlaw20.CoreRow'. -/
def coreRowCard : Claim7 := { stood := { row := coreRowRow, standIns := [], harness := (true, "2d59add82c94566b580b002f4c0940fdac8199e3002fe50fd04805472ecb882b"), looks := false }, kinds := [], alts := [], laidByText := true, laidKinds := [.data, .data, .data, .data], laidTests := true, laidLooks := .later }
def CoreRowCardSaid : Prop := Claim7.holds Tryd.pinned (.plain (OpenSpec.ofChange coreRowSpec)) coreRowCard

/-- THE TIED CARD OF 'wringerlaw19.TinyBack'. -/
def tinyBackCard : Claim7 := { stood := { row := tinyBackRow, standIns := [], harness := (true, "2d59add82c94566b580b002f4c0940fdac8199e3002fe50fd04805472ecb882b"), looks := false }, kinds := [], alts := [], laidByText := true, laidKinds := [.data, .data, .data, .data], laidTests := true, laidLooks := .later }
def TinyBackCardSaid : Prop := Claim7.holds Tryd.pinned (.plain (OpenSpec.ofChange tinyBackSpec)) tinyBackCard

/-- THE TIED CARD OF 'wringerlaw19.TinyApart'. -/
def tinyApartCard : Claim7 := { stood := { row := tinyApartRow, standIns := [], harness := (true, "2d59add82c94566b580b002f4c0940fdac8199e3002fe50fd04805472ecb882b"), looks := false }, kinds := [], alts := [], laidByText := true, laidKinds := [.data, .data, .data, .data], laidTests := true, laidLooks := .later }
def TinyApartCardSaid : Prop := Claim7.holds Tryd.pinned (.plain (OpenSpec.ofChange tinyApartSpec)) tinyApartCard

/-- THE TIED CARD OF 'wringerlaw19.TinyFlips'. -/
def tinyFlipsCard : Claim7 := { stood := { row := tinyFlipsRow, standIns := [], harness := (true, "2d59add82c94566b580b002f4c0940fdac8199e3002fe50fd04805472ecb882b"), looks := false }, kinds := [], alts := [], laidByText := true, laidKinds := [.data, .data, .data, .data], laidTests := true, laidLooks := .later }
def TinyFlipsCardSaid : Prop := Claim7.holds Tryd.pinned (.plain (OpenSpec.ofChange tinyFlipsSpec)) tinyFlipsCard

/-- THE TIED CARD OF 'wringerlaw19.TinySteady'. -/
def tinySteadyCard : Claim7 := { stood := { row := tinySteadyRow, standIns := [], harness := (true, "2d59add82c94566b580b002f4c0940fdac8199e3002fe50fd04805472ecb882b"), looks := false }, kinds := [], alts := [], laidByText := true, laidKinds := [.data, .data, .data, .data], laidTests := true, laidLooks := .later }
def TinySteadyCardSaid : Prop := Claim7.holds Tryd.pinned (.plain (OpenSpec.ofChange tinySteadySpec)) tinySteadyCard

/-- THE TIED CARD OF 'wringerlaw19.TinyRow'. -/
def tinyRowCard : Claim7 := { stood := { row := tinyRowRow, standIns := [], harness := (true, "2d59add82c94566b580b002f4c0940fdac8199e3002fe50fd04805472ecb882b"), looks := false }, kinds := [], alts := [], laidByText := true, laidKinds := [.data, .data, .data, .data], laidTests := true, laidLooks := .later }
def TinyRowCardSaid : Prop := Claim7.holds Tryd.pinned (.plain (OpenSpec.ofChange tinyRowSpec)) tinyRowCard

/-- THE SECOND FORM's CARD OF 'wringerlaw16.EzhashParts'. -/
def ezhashPartsUptoCard : Claim7 := { stood := { row := ezhashPartsUptoRow, standIns := [], harness := (true, "2d59add82c94566b580b002f4c0940fdac8199e3002fe50fd04805472ecb882b"), looks := false }, kinds := [], alts := [], laidByText := true, laidKinds := [.data, .data, .data, .data], laidTests := true, laidLooks := .later }
def EzhashPartsUptoCardSaid : Prop := Claim7.holds Tryd.pinned (.plain (OpenSpec.upto ezhashPartsSpec)) ezhashPartsUptoCard

/-- THE SECOND FORM's CARD OF 'wringerlaw16.EzhashOne'. -/
def ezhashOneUptoCard : Claim7 := { stood := { row := ezhashOneUptoRow, standIns := [], harness := (true, "2d59add82c94566b580b002f4c0940fdac8199e3002fe50fd04805472ecb882b"), looks := false }, kinds := [], alts := [], laidByText := true, laidKinds := [.data, .data, .data, .data], laidTests := true, laidLooks := .later }
def EzhashOneUptoCardSaid : Prop := Claim7.holds Tryd.pinned (.plain (OpenSpec.upto ezhashOneSpec)) ezhashOneUptoCard

/-- THE SECOND FORM's CARD OF 'wringerlaw16.EzhashBlocks'. -/
def ezhashBlocksUptoCard : Claim7 := { stood := { row := ezhashBlocksUptoRow, standIns := [], harness := (true, "2d59add82c94566b580b002f4c0940fdac8199e3002fe50fd04805472ecb882b"), looks := false }, kinds := [], alts := [], laidByText := true, laidKinds := [.data, .data, .data, .data], laidTests := true, laidLooks := .later }
def EzhashBlocksUptoCardSaid : Prop := Claim7.holds Tryd.pinned (.plain (OpenSpec.upto ezhashBlocksSpec)) ezhashBlocksUptoCard

/-- THE SECOND FORM's CARD OF 'wringerlaw16.EzhashLast'. -/
def ezhashLastUptoCard : Claim7 := { stood := { row := ezhashLastUptoRow, standIns := [], harness := (true, "2d59add82c94566b580b002f4c0940fdac8199e3002fe50fd04805472ecb882b"), looks := false }, kinds := [], alts := [], laidByText := true, laidKinds := [.data, .data, .data, .data], laidTests := true, laidLooks := .later }
def EzhashLastUptoCardSaid : Prop := Claim7.holds Tryd.pinned (.plain (OpenSpec.upto ezhashLastSpec)) ezhashLastUptoCard

/-- THE SECOND FORM's CARD OF 'wringerlaw16.EzhashHashes'. -/
def ezhashHashesUptoCard : Claim7 := { stood := { row := ezhashHashesUptoRow, standIns := [], harness := (true, "2d59add82c94566b580b002f4c0940fdac8199e3002fe50fd04805472ecb882b"), looks := false }, kinds := [], alts := [], laidByText := true, laidKinds := [.data, .data, .data, .data], laidTests := true, laidLooks := .later }
def EzhashHashesUptoCardSaid : Prop := Claim7.holds Tryd.pinned (.plain (OpenSpec.upto ezhashHashesSpec)) ezhashHashesUptoCard

/-- THE SECOND FORM's CARD OF 'wringerlaw16.EzhashRows'. -/
def ezhashRowsUptoCard : Claim7 := { stood := { row := ezhashRowsUptoRow, standIns := [], harness := (true, "2d59add82c94566b580b002f4c0940fdac8199e3002fe50fd04805472ecb882b"), looks := false }, kinds := [], alts := [], laidByText := true, laidKinds := [.data, .data, .data, .data], laidTests := true, laidLooks := .later }
def EzhashRowsUptoCardSaid : Prop := Claim7.holds Tryd.pinned (.plain (OpenSpec.upto ezhashRowsSpec)) ezhashRowsUptoCard

/-- THE SECOND FORM's CARD OF 'wringerlaw20.CoreBack'. -/
def coreBackUptoCard : Claim7 := { stood := { row := coreBackUptoRow, standIns := [], harness := (true, "2d59add82c94566b580b002f4c0940fdac8199e3002fe50fd04805472ecb882b"), looks := false }, kinds := [], alts := [], laidByText := true, laidKinds := [.data, .data, .data, .data], laidTests := true, laidLooks := .later }
def CoreBackUptoCardSaid : Prop := Claim7.holds Tryd.pinned (.plain (OpenSpec.upto coreBackSpec)) coreBackUptoCard

/-- THE SECOND FORM's CARD OF 'wringerlaw20.CoreApart'. -/
def coreApartUptoCard : Claim7 := { stood := { row := coreApartUptoRow, standIns := [], harness := (true, "2d59add82c94566b580b002f4c0940fdac8199e3002fe50fd04805472ecb882b"), looks := false }, kinds := [], alts := [], laidByText := true, laidKinds := [.data, .data, .data, .data], laidTests := true, laidLooks := .later }
def CoreApartUptoCardSaid : Prop := Claim7.holds Tryd.pinned (.plain (OpenSpec.upto coreApartSpec)) coreApartUptoCard

/-- THE SECOND FORM's CARD OF 'wringerlaw20.CoreTwo'. -/
def coreTwoUptoCard : Claim7 := { stood := { row := coreTwoUptoRow, standIns := [], harness := (true, "2d59add82c94566b580b002f4c0940fdac8199e3002fe50fd04805472ecb882b"), looks := false }, kinds := [], alts := [], laidByText := true, laidKinds := [.data, .data, .data, .data], laidTests := true, laidLooks := .later }
def CoreTwoUptoCardSaid : Prop := Claim7.holds Tryd.pinned (.plain (OpenSpec.upto coreTwoSpec)) coreTwoUptoCard

/-- THE SECOND FORM's CARD OF 'wringerlaw20.CoreMiddle'. -/
def coreMiddleUptoCard : Claim7 := { stood := { row := coreMiddleUptoRow, standIns := [], harness := (true, "2d59add82c94566b580b002f4c0940fdac8199e3002fe50fd04805472ecb882b"), looks := false }, kinds := [], alts := [], laidByText := true, laidKinds := [.data, .data, .data, .data], laidTests := true, laidLooks := .later }
def CoreMiddleUptoCardSaid : Prop := Claim7.holds Tryd.pinned (.plain (OpenSpec.upto coreMiddleSpec)) coreMiddleUptoCard

/-- THE SECOND FORM's CARD OF 'wringerlaw20.CoreRow'. -/
def coreRowUptoCard : Claim7 := { stood := { row := coreRowUptoRow, standIns := [], harness := (true, "2d59add82c94566b580b002f4c0940fdac8199e3002fe50fd04805472ecb882b"), looks := false }, kinds := [], alts := [], laidByText := true, laidKinds := [.data, .data, .data, .data], laidTests := true, laidLooks := .later }
def CoreRowUptoCardSaid : Prop := Claim7.holds Tryd.pinned (.plain (OpenSpec.upto coreRowSpec)) coreRowUptoCard

/-- THE SECOND FORM's CARD OF 'wringerlaw19.TinyBack'. -/
def tinyBackUptoCard : Claim7 := { stood := { row := tinyBackUptoRow, standIns := [], harness := (true, "2d59add82c94566b580b002f4c0940fdac8199e3002fe50fd04805472ecb882b"), looks := false }, kinds := [], alts := [], laidByText := true, laidKinds := [.data, .data, .data, .data], laidTests := true, laidLooks := .later }
def TinyBackUptoCardSaid : Prop := Claim7.holds Tryd.pinned (.plain (OpenSpec.upto tinyBackSpec)) tinyBackUptoCard

/-- THE SECOND FORM's CARD OF 'wringerlaw19.TinyApart'. -/
def tinyApartUptoCard : Claim7 := { stood := { row := tinyApartUptoRow, standIns := [], harness := (true, "2d59add82c94566b580b002f4c0940fdac8199e3002fe50fd04805472ecb882b"), looks := false }, kinds := [], alts := [], laidByText := true, laidKinds := [.data, .data, .data, .data], laidTests := true, laidLooks := .later }
def TinyApartUptoCardSaid : Prop := Claim7.holds Tryd.pinned (.plain (OpenSpec.upto tinyApartSpec)) tinyApartUptoCard

/-- THE SECOND FORM's CARD OF 'wringerlaw19.TinyFlips'. -/
def tinyFlipsUptoCard : Claim7 := { stood := { row := tinyFlipsUptoRow, standIns := [], harness := (true, "2d59add82c94566b580b002f4c0940fdac8199e3002fe50fd04805472ecb882b"), looks := false }, kinds := [], alts := [], laidByText := true, laidKinds := [.data, .data, .data, .data], laidTests := true, laidLooks := .later }
def TinyFlipsUptoCardSaid : Prop := Claim7.holds Tryd.pinned (.plain (OpenSpec.upto tinyFlipsSpec)) tinyFlipsUptoCard

/-- THE SECOND FORM's CARD OF 'wringerlaw19.TinySteady'. -/
def tinySteadyUptoCard : Claim7 := { stood := { row := tinySteadyUptoRow, standIns := [], harness := (true, "2d59add82c94566b580b002f4c0940fdac8199e3002fe50fd04805472ecb882b"), looks := false }, kinds := [], alts := [], laidByText := true, laidKinds := [.data, .data, .data, .data], laidTests := true, laidLooks := .later }
def TinySteadyUptoCardSaid : Prop := Claim7.holds Tryd.pinned (.plain (OpenSpec.upto tinySteadySpec)) tinySteadyUptoCard

/-- THE SECOND FORM's CARD OF 'wringerlaw19.TinyRow'. -/
def tinyRowUptoCard : Claim7 := { stood := { row := tinyRowUptoRow, standIns := [], harness := (true, "2d59add82c94566b580b002f4c0940fdac8199e3002fe50fd04805472ecb882b"), looks := false }, kinds := [], alts := [], laidByText := true, laidKinds := [.data, .data, .data, .data], laidTests := true, laidLooks := .later }
def TinyRowUptoCardSaid : Prop := Claim7.holds Tryd.pinned (.plain (OpenSpec.upto tinyRowSpec)) tinyRowUptoCard
end Rows
end Go.Proofs.YtmgopjeaehmbfaaDoor
