/-
  NARROWER THAN 'FOR EVERY INPUT', by the rows' own cells (each row's printed sentence says how): EzhashParts: laid · EzhashOne: laid · EzhashBlocks: laid · EzhashLast: laid · EzhashHashes: laid · EzhashRows: laid · CoreBack: laid · CoreApart: laid · CoreTwo: laid · CoreMiddle: laid · CoreRow: laid · TinyBack: laid · TinyApart: laid · TinyFlips: laid · TinySteady: laid · TinyRow: laid.
  DERIVED. THE GIVEN ROWS OF THIS SEAT. 16 by the template 'for every input the law returns true; each argument reads behind the call as it read before'; 0 by the template 'total and deterministic' (their statements: YtmgopjeaehmbfaaDoorTotals.lean).
  GIVEN WITH THE SEED: the statements are not yours to turn. If you find one false, say at which input.
  Laid BY PROGRAM, IN A SANDBOX (cutbox-rows.mjs): the forced cells as the released guide's own fill.sh prints them over the translation 01005b43745d0a40… (all of the seat's roots in one cut). By AI agents, Wed Nov 11 2026. No macro, syntax, notation, axiom, sorry.
-/
import Derived.Test.YtmgopjeaehmbfaaDoorChecked
import GoSem.Claim
import GoSem.ClaimJoined
import GoSem.ClaimMapViews
import Derived.JoinedTies
import Derived.KernelRfl
namespace Go.Proofs.YtmgopjeaehmbfaaDoor
/- THE CELL 'sum', in the pinned program and in every row, IS THE sha256 OF THE DUMP (.gsa) THAT YtmgopjeaehmbfaaDoorProg.lean LOADS. Nothing in Lean hashes anything: it is a label: what it is worth is what the hold of that sum in a sandbox is worth. -/
noncomputable def Tryd.pinned : Pinned := { name := "ytmgopjeaehmbfaadoor", sum := "01005b43745d0a40eadc947025fee7e1506c2478ee799ba06839b1099b07e704", checked := Tryd.checked }
namespace Rows
def none {H : Type} : Left H := { results := [], args := [] }

/- WHAT THE LISTED PACKAGE-LEVEL VARIABLES READ AS WHEN THE CALL BEGINS. Each datum BY PROGRAM (the guide's laid-datum.mjs) off the statement by which the dump's own 'gosem.cut.vars' lays the variable. In a bare row this is a premise. The card (YtmgopjeaehmbfaaDoorCards.lean) ties it to the program's text. -/
def laid_wringer_blake_first {H : Type} : DataW H := .agg [.lit (.int .u64 7640891576956012808), .lit (.int .u64 13503953896175478587), .lit (.int .u64 4354685564936845355), .lit (.int .u64 11912009170470909681), .lit (.int .u64 5840696475078001361), .lit (.int .u64 11170449401992604703), .lit (.int .u64 2270897969802886507), .lit (.int .u64 6620516959819538809)]
def laid_wringer_blake_rows {H : Type} : DataW H := .agg [.agg [.lit (.int .u8 0), .lit (.int .u8 1), .lit (.int .u8 2), .lit (.int .u8 3), .lit (.int .u8 4), .lit (.int .u8 5), .lit (.int .u8 6), .lit (.int .u8 7), .lit (.int .u8 8), .lit (.int .u8 9), .lit (.int .u8 10), .lit (.int .u8 11), .lit (.int .u8 12), .lit (.int .u8 13), .lit (.int .u8 14), .lit (.int .u8 15)], .agg [.lit (.int .u8 14), .lit (.int .u8 10), .lit (.int .u8 4), .lit (.int .u8 8), .lit (.int .u8 9), .lit (.int .u8 15), .lit (.int .u8 13), .lit (.int .u8 6), .lit (.int .u8 1), .lit (.int .u8 12), .lit (.int .u8 0), .lit (.int .u8 2), .lit (.int .u8 11), .lit (.int .u8 7), .lit (.int .u8 5), .lit (.int .u8 3)], .agg [.lit (.int .u8 11), .lit (.int .u8 8), .lit (.int .u8 12), .lit (.int .u8 0), .lit (.int .u8 5), .lit (.int .u8 2), .lit (.int .u8 15), .lit (.int .u8 13), .lit (.int .u8 10), .lit (.int .u8 14), .lit (.int .u8 3), .lit (.int .u8 6), .lit (.int .u8 7), .lit (.int .u8 1), .lit (.int .u8 9), .lit (.int .u8 4)], .agg [.lit (.int .u8 7), .lit (.int .u8 9), .lit (.int .u8 3), .lit (.int .u8 1), .lit (.int .u8 13), .lit (.int .u8 12), .lit (.int .u8 11), .lit (.int .u8 14), .lit (.int .u8 2), .lit (.int .u8 6), .lit (.int .u8 5), .lit (.int .u8 10), .lit (.int .u8 4), .lit (.int .u8 0), .lit (.int .u8 15), .lit (.int .u8 8)], .agg [.lit (.int .u8 9), .lit (.int .u8 0), .lit (.int .u8 5), .lit (.int .u8 7), .lit (.int .u8 2), .lit (.int .u8 4), .lit (.int .u8 10), .lit (.int .u8 15), .lit (.int .u8 14), .lit (.int .u8 1), .lit (.int .u8 11), .lit (.int .u8 12), .lit (.int .u8 6), .lit (.int .u8 8), .lit (.int .u8 3), .lit (.int .u8 13)], .agg [.lit (.int .u8 2), .lit (.int .u8 12), .lit (.int .u8 6), .lit (.int .u8 10), .lit (.int .u8 0), .lit (.int .u8 11), .lit (.int .u8 8), .lit (.int .u8 3), .lit (.int .u8 4), .lit (.int .u8 13), .lit (.int .u8 7), .lit (.int .u8 5), .lit (.int .u8 15), .lit (.int .u8 14), .lit (.int .u8 1), .lit (.int .u8 9)], .agg [.lit (.int .u8 12), .lit (.int .u8 5), .lit (.int .u8 1), .lit (.int .u8 15), .lit (.int .u8 14), .lit (.int .u8 13), .lit (.int .u8 4), .lit (.int .u8 10), .lit (.int .u8 0), .lit (.int .u8 7), .lit (.int .u8 6), .lit (.int .u8 3), .lit (.int .u8 9), .lit (.int .u8 2), .lit (.int .u8 8), .lit (.int .u8 11)], .agg [.lit (.int .u8 13), .lit (.int .u8 11), .lit (.int .u8 7), .lit (.int .u8 14), .lit (.int .u8 12), .lit (.int .u8 1), .lit (.int .u8 3), .lit (.int .u8 9), .lit (.int .u8 5), .lit (.int .u8 0), .lit (.int .u8 15), .lit (.int .u8 4), .lit (.int .u8 8), .lit (.int .u8 6), .lit (.int .u8 2), .lit (.int .u8 10)], .agg [.lit (.int .u8 6), .lit (.int .u8 15), .lit (.int .u8 14), .lit (.int .u8 9), .lit (.int .u8 11), .lit (.int .u8 3), .lit (.int .u8 0), .lit (.int .u8 8), .lit (.int .u8 12), .lit (.int .u8 2), .lit (.int .u8 13), .lit (.int .u8 7), .lit (.int .u8 1), .lit (.int .u8 4), .lit (.int .u8 10), .lit (.int .u8 5)], .agg [.lit (.int .u8 10), .lit (.int .u8 2), .lit (.int .u8 8), .lit (.int .u8 4), .lit (.int .u8 7), .lit (.int .u8 6), .lit (.int .u8 1), .lit (.int .u8 5), .lit (.int .u8 15), .lit (.int .u8 11), .lit (.int .u8 9), .lit (.int .u8 14), .lit (.int .u8 3), .lit (.int .u8 12), .lit (.int .u8 13), .lit (.int .u8 0)]]
def laid_wringer_turn_mixes {H : Type} : DataW H := .agg [.lit (.int .u8 2), .lit (.int .u8 3), .lit (.int .u8 1), .lit (.int .u8 1)]
def laid_wringer_turn_unmixes {H : Type} : DataW H := .agg [.lit (.int .u8 14), .lit (.int .u8 11), .lit (.int .u8 13), .lit (.int .u8 9)]

/-- 'wringerlaw16.EzhashParts': WHATEVER THE INPUT: true; the input reads as it did. -/
def ezhashPartsSpec : ChangeSpec := { name := "ezhashParts", fn := fun _ => fun
  | [d1, d2, d3] => { results := [.lit (.bool true)], args := [d1, d2, d3] }
  | _ => none }
def ezhashPartsRow : OpenClaim := { program := "ytmgopjeaehmbfaadoor", sum := "01005b43745d0a40eadc947025fee7e1506c2478ee799ba06839b1099b07e704", func := "wringer/wringerlaw16.EzhashParts", spec := "ezhashParts", inPlace := ["math/bits.Add64"], unfollowed := true, recurses := true, named := ["wringer/turn.mixes", "wringer/turn.unmixes", "wringer/blake.first", "wringer/blake.rows"], apart := false, laid := [("wringer/blake.first", laid_wringer_blake_first), ("wringer/blake.rows", laid_wringer_blake_rows), ("wringer/turn.mixes", laid_wringer_turn_mixes), ("wringer/turn.unmixes", laid_wringer_turn_unmixes)] }
def EzhashPartsSaid : Prop := ezhashPartsRow.holds Tryd.pinned (OpenSpec.ofChange ezhashPartsSpec)

/-- ITS FALSE NEIGHBOUR: 'it returns false'. Refute it at one input. -/
def ezhashPartsWrong : ChangeSpec := { name := "ezhashParts", fn := fun _ => fun
  | [d1, d2, d3] => { results := [.lit (.bool false)], args := [d1, d2, d3] }
  | _ => none }
def EzhashPartsWrongFalsely : Prop := ezhashPartsRow.holds Tryd.pinned (OpenSpec.ofChange ezhashPartsWrong)

/-- 'wringerlaw16.EzhashOne': WHATEVER THE INPUT: true; the input reads as it did. -/
def ezhashOneSpec : ChangeSpec := { name := "ezhashOne", fn := fun _ => fun
  | [d1, d2, d3] => { results := [.lit (.bool true)], args := [d1, d2, d3] }
  | _ => none }
def ezhashOneRow : OpenClaim := { program := "ytmgopjeaehmbfaadoor", sum := "01005b43745d0a40eadc947025fee7e1506c2478ee799ba06839b1099b07e704", func := "wringer/wringerlaw16.EzhashOne", spec := "ezhashOne", inPlace := ["math/bits.Add64"], unfollowed := true, recurses := true, named := ["wringer/turn.mixes", "wringer/turn.unmixes", "wringer/blake.first", "wringer/blake.rows"], apart := false, laid := [("wringer/blake.first", laid_wringer_blake_first), ("wringer/blake.rows", laid_wringer_blake_rows), ("wringer/turn.mixes", laid_wringer_turn_mixes), ("wringer/turn.unmixes", laid_wringer_turn_unmixes)] }
def EzhashOneSaid : Prop := ezhashOneRow.holds Tryd.pinned (OpenSpec.ofChange ezhashOneSpec)

/-- ITS FALSE NEIGHBOUR: 'it returns false'. Refute it at one input. -/
def ezhashOneWrong : ChangeSpec := { name := "ezhashOne", fn := fun _ => fun
  | [d1, d2, d3] => { results := [.lit (.bool false)], args := [d1, d2, d3] }
  | _ => none }
def EzhashOneWrongFalsely : Prop := ezhashOneRow.holds Tryd.pinned (OpenSpec.ofChange ezhashOneWrong)

/-- 'wringerlaw16.EzhashBlocks': WHATEVER THE INPUT: true; the input reads as it did. -/
def ezhashBlocksSpec : ChangeSpec := { name := "ezhashBlocks", fn := fun _ => fun
  | [d1, d2, d3] => { results := [.lit (.bool true)], args := [d1, d2, d3] }
  | _ => none }
def ezhashBlocksRow : OpenClaim := { program := "ytmgopjeaehmbfaadoor", sum := "01005b43745d0a40eadc947025fee7e1506c2478ee799ba06839b1099b07e704", func := "wringer/wringerlaw16.EzhashBlocks", spec := "ezhashBlocks", inPlace := ["math/bits.Add64"], unfollowed := true, recurses := true, named := ["wringer/turn.mixes", "wringer/turn.unmixes", "wringer/blake.first", "wringer/blake.rows"], apart := false, laid := [("wringer/blake.first", laid_wringer_blake_first), ("wringer/blake.rows", laid_wringer_blake_rows), ("wringer/turn.mixes", laid_wringer_turn_mixes), ("wringer/turn.unmixes", laid_wringer_turn_unmixes)] }
def EzhashBlocksSaid : Prop := ezhashBlocksRow.holds Tryd.pinned (OpenSpec.ofChange ezhashBlocksSpec)

/-- ITS FALSE NEIGHBOUR: 'it returns false'. Refute it at one input. -/
def ezhashBlocksWrong : ChangeSpec := { name := "ezhashBlocks", fn := fun _ => fun
  | [d1, d2, d3] => { results := [.lit (.bool false)], args := [d1, d2, d3] }
  | _ => none }
def EzhashBlocksWrongFalsely : Prop := ezhashBlocksRow.holds Tryd.pinned (OpenSpec.ofChange ezhashBlocksWrong)

/-- 'wringerlaw16.EzhashLast': WHATEVER THE INPUT: true; the input reads as it did. -/
def ezhashLastSpec : ChangeSpec := { name := "ezhashLast", fn := fun _ => fun
  | [d] => { results := [.lit (.bool true)], args := [d] }
  | _ => none }
def ezhashLastRow : OpenClaim := { program := "ytmgopjeaehmbfaadoor", sum := "01005b43745d0a40eadc947025fee7e1506c2478ee799ba06839b1099b07e704", func := "wringer/wringerlaw16.EzhashLast", spec := "ezhashLast", inPlace := ["math/bits.Add64"], unfollowed := true, recurses := true, named := ["wringer/turn.mixes", "wringer/turn.unmixes", "wringer/blake.first", "wringer/blake.rows"], apart := false, laid := [("wringer/blake.first", laid_wringer_blake_first), ("wringer/blake.rows", laid_wringer_blake_rows), ("wringer/turn.mixes", laid_wringer_turn_mixes), ("wringer/turn.unmixes", laid_wringer_turn_unmixes)] }
def EzhashLastSaid : Prop := ezhashLastRow.holds Tryd.pinned (OpenSpec.ofChange ezhashLastSpec)

/-- ITS FALSE NEIGHBOUR: 'it returns false'. Refute it at one input. -/
def ezhashLastWrong : ChangeSpec := { name := "ezhashLast", fn := fun _ => fun
  | [d] => { results := [.lit (.bool false)], args := [d] }
  | _ => none }
def EzhashLastWrongFalsely : Prop := ezhashLastRow.holds Tryd.pinned (OpenSpec.ofChange ezhashLastWrong)

/-- 'wringerlaw16.EzhashHashes': WHATEVER THE INPUT: true; the input reads as it did. -/
def ezhashHashesSpec : ChangeSpec := { name := "ezhashHashes", fn := fun _ => fun
  | [d1, d2, d3] => { results := [.lit (.bool true)], args := [d1, d2, d3] }
  | _ => none }
def ezhashHashesRow : OpenClaim := { program := "ytmgopjeaehmbfaadoor", sum := "01005b43745d0a40eadc947025fee7e1506c2478ee799ba06839b1099b07e704", func := "wringer/wringerlaw16.EzhashHashes", spec := "ezhashHashes", inPlace := ["math/bits.Add64"], unfollowed := true, recurses := true, named := ["wringer/turn.mixes", "wringer/turn.unmixes", "wringer/blake.first", "wringer/blake.rows"], apart := false, laid := [("wringer/blake.first", laid_wringer_blake_first), ("wringer/blake.rows", laid_wringer_blake_rows), ("wringer/turn.mixes", laid_wringer_turn_mixes), ("wringer/turn.unmixes", laid_wringer_turn_unmixes)] }
def EzhashHashesSaid : Prop := ezhashHashesRow.holds Tryd.pinned (OpenSpec.ofChange ezhashHashesSpec)

/-- ITS FALSE NEIGHBOUR: 'it returns false'. Refute it at one input. -/
def ezhashHashesWrong : ChangeSpec := { name := "ezhashHashes", fn := fun _ => fun
  | [d1, d2, d3] => { results := [.lit (.bool false)], args := [d1, d2, d3] }
  | _ => none }
def EzhashHashesWrongFalsely : Prop := ezhashHashesRow.holds Tryd.pinned (OpenSpec.ofChange ezhashHashesWrong)

/-- 'wringerlaw16.EzhashRows': WHATEVER THE INPUT: true; the input reads as it did. -/
def ezhashRowsSpec : ChangeSpec := { name := "ezhashRows", fn := fun _ => fun
  | [d1, d2, d3] => { results := [.lit (.bool true)], args := [d1, d2, d3] }
  | _ => none }
def ezhashRowsRow : OpenClaim := { program := "ytmgopjeaehmbfaadoor", sum := "01005b43745d0a40eadc947025fee7e1506c2478ee799ba06839b1099b07e704", func := "wringer/wringerlaw16.EzhashRows", spec := "ezhashRows", inPlace := ["math/bits.Add64"], unfollowed := true, recurses := true, named := ["wringer/turn.mixes", "wringer/turn.unmixes", "wringer/blake.first", "wringer/blake.rows"], apart := false, laid := [("wringer/blake.first", laid_wringer_blake_first), ("wringer/blake.rows", laid_wringer_blake_rows), ("wringer/turn.mixes", laid_wringer_turn_mixes), ("wringer/turn.unmixes", laid_wringer_turn_unmixes)] }
def EzhashRowsSaid : Prop := ezhashRowsRow.holds Tryd.pinned (OpenSpec.ofChange ezhashRowsSpec)

/-- ITS FALSE NEIGHBOUR: 'it returns false'. Refute it at one input. -/
def ezhashRowsWrong : ChangeSpec := { name := "ezhashRows", fn := fun _ => fun
  | [d1, d2, d3] => { results := [.lit (.bool false)], args := [d1, d2, d3] }
  | _ => none }
def EzhashRowsWrongFalsely : Prop := ezhashRowsRow.holds Tryd.pinned (OpenSpec.ofChange ezhashRowsWrong)

/-- 'wringerlaw20.CoreBack': WHATEVER THE INPUT: true; the input reads as it did. -/
def coreBackSpec : ChangeSpec := { name := "coreBack", fn := fun _ => fun
  | [d] => { results := [.lit (.bool true)], args := [d] }
  | _ => none }
def coreBackRow : OpenClaim := { program := "ytmgopjeaehmbfaadoor", sum := "01005b43745d0a40eadc947025fee7e1506c2478ee799ba06839b1099b07e704", func := "wringer/wringerlaw20.CoreBack", spec := "coreBack", inPlace := ["math/bits.Add64"], unfollowed := true, recurses := true, named := ["wringer/turn.mixes", "wringer/turn.unmixes", "wringer/blake.first", "wringer/blake.rows"], apart := false, laid := [("wringer/blake.first", laid_wringer_blake_first), ("wringer/blake.rows", laid_wringer_blake_rows), ("wringer/turn.mixes", laid_wringer_turn_mixes), ("wringer/turn.unmixes", laid_wringer_turn_unmixes)] }
def CoreBackSaid : Prop := coreBackRow.holds Tryd.pinned (OpenSpec.ofChange coreBackSpec)

/-- ITS FALSE NEIGHBOUR: 'it returns false'. Refute it at one input. -/
def coreBackWrong : ChangeSpec := { name := "coreBack", fn := fun _ => fun
  | [d] => { results := [.lit (.bool false)], args := [d] }
  | _ => none }
def CoreBackWrongFalsely : Prop := coreBackRow.holds Tryd.pinned (OpenSpec.ofChange coreBackWrong)

/-- 'wringerlaw20.CoreApart': WHATEVER THE INPUT: true; the input reads as it did. -/
def coreApartSpec : ChangeSpec := { name := "coreApart", fn := fun _ => fun
  | [d1, d2] => { results := [.lit (.bool true)], args := [d1, d2] }
  | _ => none }
def coreApartRow : OpenClaim := { program := "ytmgopjeaehmbfaadoor", sum := "01005b43745d0a40eadc947025fee7e1506c2478ee799ba06839b1099b07e704", func := "wringer/wringerlaw20.CoreApart", spec := "coreApart", inPlace := ["math/bits.Add64"], unfollowed := true, recurses := true, named := ["wringer/turn.mixes", "wringer/turn.unmixes", "wringer/blake.first", "wringer/blake.rows"], apart := false, laid := [("wringer/blake.first", laid_wringer_blake_first), ("wringer/blake.rows", laid_wringer_blake_rows), ("wringer/turn.mixes", laid_wringer_turn_mixes), ("wringer/turn.unmixes", laid_wringer_turn_unmixes)] }
def CoreApartSaid : Prop := coreApartRow.holds Tryd.pinned (OpenSpec.ofChange coreApartSpec)

/-- ITS FALSE NEIGHBOUR: 'it returns false'. Refute it at one input. -/
def coreApartWrong : ChangeSpec := { name := "coreApart", fn := fun _ => fun
  | [d1, d2] => { results := [.lit (.bool false)], args := [d1, d2] }
  | _ => none }
def CoreApartWrongFalsely : Prop := coreApartRow.holds Tryd.pinned (OpenSpec.ofChange coreApartWrong)

/-- 'wringerlaw20.CoreTwo': WHATEVER THE INPUT: true; the input reads as it did. -/
def coreTwoSpec : ChangeSpec := { name := "coreTwo", fn := fun _ => fun
  | [d1, d2, d3] => { results := [.lit (.bool true)], args := [d1, d2, d3] }
  | _ => none }
def coreTwoRow : OpenClaim := { program := "ytmgopjeaehmbfaadoor", sum := "01005b43745d0a40eadc947025fee7e1506c2478ee799ba06839b1099b07e704", func := "wringer/wringerlaw20.CoreTwo", spec := "coreTwo", inPlace := ["math/bits.Add64"], unfollowed := true, recurses := true, named := ["wringer/turn.mixes", "wringer/turn.unmixes", "wringer/blake.first", "wringer/blake.rows"], apart := false, laid := [("wringer/blake.first", laid_wringer_blake_first), ("wringer/blake.rows", laid_wringer_blake_rows), ("wringer/turn.mixes", laid_wringer_turn_mixes), ("wringer/turn.unmixes", laid_wringer_turn_unmixes)] }
def CoreTwoSaid : Prop := coreTwoRow.holds Tryd.pinned (OpenSpec.ofChange coreTwoSpec)

/-- ITS FALSE NEIGHBOUR: 'it returns false'. Refute it at one input. -/
def coreTwoWrong : ChangeSpec := { name := "coreTwo", fn := fun _ => fun
  | [d1, d2, d3] => { results := [.lit (.bool false)], args := [d1, d2, d3] }
  | _ => none }
def CoreTwoWrongFalsely : Prop := coreTwoRow.holds Tryd.pinned (OpenSpec.ofChange coreTwoWrong)

/-- 'wringerlaw20.CoreMiddle': WHATEVER THE INPUT: true; the input reads as it did. -/
def coreMiddleSpec : ChangeSpec := { name := "coreMiddle", fn := fun _ => fun
  | [d] => { results := [.lit (.bool true)], args := [d] }
  | _ => none }
def coreMiddleRow : OpenClaim := { program := "ytmgopjeaehmbfaadoor", sum := "01005b43745d0a40eadc947025fee7e1506c2478ee799ba06839b1099b07e704", func := "wringer/wringerlaw20.CoreMiddle", spec := "coreMiddle", inPlace := ["math/bits.Add64"], unfollowed := true, recurses := true, named := ["wringer/turn.mixes", "wringer/turn.unmixes", "wringer/blake.first", "wringer/blake.rows"], apart := false, laid := [("wringer/blake.first", laid_wringer_blake_first), ("wringer/blake.rows", laid_wringer_blake_rows), ("wringer/turn.mixes", laid_wringer_turn_mixes), ("wringer/turn.unmixes", laid_wringer_turn_unmixes)] }
def CoreMiddleSaid : Prop := coreMiddleRow.holds Tryd.pinned (OpenSpec.ofChange coreMiddleSpec)

/-- ITS FALSE NEIGHBOUR: 'it returns false'. Refute it at one input. -/
def coreMiddleWrong : ChangeSpec := { name := "coreMiddle", fn := fun _ => fun
  | [d] => { results := [.lit (.bool false)], args := [d] }
  | _ => none }
def CoreMiddleWrongFalsely : Prop := coreMiddleRow.holds Tryd.pinned (OpenSpec.ofChange coreMiddleWrong)

/-- 'wringerlaw20.CoreRow': WHATEVER THE INPUT: true; the input reads as it did. -/
def coreRowSpec : ChangeSpec := { name := "coreRow", fn := fun _ => fun
  | [d1, d2] => { results := [.lit (.bool true)], args := [d1, d2] }
  | _ => none }
def coreRowRow : OpenClaim := { program := "ytmgopjeaehmbfaadoor", sum := "01005b43745d0a40eadc947025fee7e1506c2478ee799ba06839b1099b07e704", func := "wringer/wringerlaw20.CoreRow", spec := "coreRow", inPlace := ["math/bits.Add64"], unfollowed := true, recurses := true, named := ["wringer/turn.mixes", "wringer/turn.unmixes", "wringer/blake.first", "wringer/blake.rows"], apart := false, laid := [("wringer/blake.first", laid_wringer_blake_first), ("wringer/blake.rows", laid_wringer_blake_rows), ("wringer/turn.mixes", laid_wringer_turn_mixes), ("wringer/turn.unmixes", laid_wringer_turn_unmixes)] }
def CoreRowSaid : Prop := coreRowRow.holds Tryd.pinned (OpenSpec.ofChange coreRowSpec)

/-- ITS FALSE NEIGHBOUR: 'it returns false'. Refute it at one input. -/
def coreRowWrong : ChangeSpec := { name := "coreRow", fn := fun _ => fun
  | [d1, d2] => { results := [.lit (.bool false)], args := [d1, d2] }
  | _ => none }
def CoreRowWrongFalsely : Prop := coreRowRow.holds Tryd.pinned (OpenSpec.ofChange coreRowWrong)

/-- 'wringerlaw19.TinyBack': WHATEVER THE INPUT: true; the input reads as it did. -/
def tinyBackSpec : ChangeSpec := { name := "tinyBack", fn := fun _ => fun
  | [d] => { results := [.lit (.bool true)], args := [d] }
  | _ => none }
def tinyBackRow : OpenClaim := { program := "ytmgopjeaehmbfaadoor", sum := "01005b43745d0a40eadc947025fee7e1506c2478ee799ba06839b1099b07e704", func := "wringer/wringerlaw19.TinyBack", spec := "tinyBack", inPlace := ["math/bits.Add64"], unfollowed := true, recurses := true, named := ["wringer/turn.mixes", "wringer/turn.unmixes", "wringer/blake.first", "wringer/blake.rows"], apart := false, laid := [("wringer/blake.first", laid_wringer_blake_first), ("wringer/blake.rows", laid_wringer_blake_rows), ("wringer/turn.mixes", laid_wringer_turn_mixes), ("wringer/turn.unmixes", laid_wringer_turn_unmixes)] }
def TinyBackSaid : Prop := tinyBackRow.holds Tryd.pinned (OpenSpec.ofChange tinyBackSpec)

/-- ITS FALSE NEIGHBOUR: 'it returns false'. Refute it at one input. -/
def tinyBackWrong : ChangeSpec := { name := "tinyBack", fn := fun _ => fun
  | [d] => { results := [.lit (.bool false)], args := [d] }
  | _ => none }
def TinyBackWrongFalsely : Prop := tinyBackRow.holds Tryd.pinned (OpenSpec.ofChange tinyBackWrong)

/-- 'wringerlaw19.TinyApart': WHATEVER THE INPUT: true; the input reads as it did. -/
def tinyApartSpec : ChangeSpec := { name := "tinyApart", fn := fun _ => fun
  | [d1, d2] => { results := [.lit (.bool true)], args := [d1, d2] }
  | _ => none }
def tinyApartRow : OpenClaim := { program := "ytmgopjeaehmbfaadoor", sum := "01005b43745d0a40eadc947025fee7e1506c2478ee799ba06839b1099b07e704", func := "wringer/wringerlaw19.TinyApart", spec := "tinyApart", inPlace := ["math/bits.Add64"], unfollowed := true, recurses := true, named := ["wringer/turn.mixes", "wringer/turn.unmixes", "wringer/blake.first", "wringer/blake.rows"], apart := false, laid := [("wringer/blake.first", laid_wringer_blake_first), ("wringer/blake.rows", laid_wringer_blake_rows), ("wringer/turn.mixes", laid_wringer_turn_mixes), ("wringer/turn.unmixes", laid_wringer_turn_unmixes)] }
def TinyApartSaid : Prop := tinyApartRow.holds Tryd.pinned (OpenSpec.ofChange tinyApartSpec)

/-- ITS FALSE NEIGHBOUR: 'it returns false'. Refute it at one input. -/
def tinyApartWrong : ChangeSpec := { name := "tinyApart", fn := fun _ => fun
  | [d1, d2] => { results := [.lit (.bool false)], args := [d1, d2] }
  | _ => none }
def TinyApartWrongFalsely : Prop := tinyApartRow.holds Tryd.pinned (OpenSpec.ofChange tinyApartWrong)

/-- 'wringerlaw19.TinyFlips': WHATEVER THE INPUT: true; the input reads as it did. -/
def tinyFlipsSpec : ChangeSpec := { name := "tinyFlips", fn := fun _ => fun
  | [d1, d2, d3] => { results := [.lit (.bool true)], args := [d1, d2, d3] }
  | _ => none }
def tinyFlipsRow : OpenClaim := { program := "ytmgopjeaehmbfaadoor", sum := "01005b43745d0a40eadc947025fee7e1506c2478ee799ba06839b1099b07e704", func := "wringer/wringerlaw19.TinyFlips", spec := "tinyFlips", inPlace := ["math/bits.Add64"], unfollowed := true, recurses := true, named := ["wringer/turn.mixes", "wringer/turn.unmixes", "wringer/blake.first", "wringer/blake.rows"], apart := false, laid := [("wringer/blake.first", laid_wringer_blake_first), ("wringer/blake.rows", laid_wringer_blake_rows), ("wringer/turn.mixes", laid_wringer_turn_mixes), ("wringer/turn.unmixes", laid_wringer_turn_unmixes)] }
def TinyFlipsSaid : Prop := tinyFlipsRow.holds Tryd.pinned (OpenSpec.ofChange tinyFlipsSpec)

/-- ITS FALSE NEIGHBOUR: 'it returns false'. Refute it at one input. -/
def tinyFlipsWrong : ChangeSpec := { name := "tinyFlips", fn := fun _ => fun
  | [d1, d2, d3] => { results := [.lit (.bool false)], args := [d1, d2, d3] }
  | _ => none }
def TinyFlipsWrongFalsely : Prop := tinyFlipsRow.holds Tryd.pinned (OpenSpec.ofChange tinyFlipsWrong)

/-- 'wringerlaw19.TinySteady': WHATEVER THE INPUT: true; the input reads as it did. -/
def tinySteadySpec : ChangeSpec := { name := "tinySteady", fn := fun _ => fun
  | [d] => { results := [.lit (.bool true)], args := [d] }
  | _ => none }
def tinySteadyRow : OpenClaim := { program := "ytmgopjeaehmbfaadoor", sum := "01005b43745d0a40eadc947025fee7e1506c2478ee799ba06839b1099b07e704", func := "wringer/wringerlaw19.TinySteady", spec := "tinySteady", inPlace := ["math/bits.Add64"], unfollowed := true, recurses := true, named := ["wringer/turn.mixes", "wringer/turn.unmixes", "wringer/blake.first", "wringer/blake.rows"], apart := false, laid := [("wringer/blake.first", laid_wringer_blake_first), ("wringer/blake.rows", laid_wringer_blake_rows), ("wringer/turn.mixes", laid_wringer_turn_mixes), ("wringer/turn.unmixes", laid_wringer_turn_unmixes)] }
def TinySteadySaid : Prop := tinySteadyRow.holds Tryd.pinned (OpenSpec.ofChange tinySteadySpec)

/-- ITS FALSE NEIGHBOUR: 'it returns false'. Refute it at one input. -/
def tinySteadyWrong : ChangeSpec := { name := "tinySteady", fn := fun _ => fun
  | [d] => { results := [.lit (.bool false)], args := [d] }
  | _ => none }
def TinySteadyWrongFalsely : Prop := tinySteadyRow.holds Tryd.pinned (OpenSpec.ofChange tinySteadyWrong)

/-- 'wringerlaw19.TinyRow': WHATEVER THE INPUT: true; the input reads as it did. -/
def tinyRowSpec : ChangeSpec := { name := "tinyRow", fn := fun _ => fun
  | [d1, d2] => { results := [.lit (.bool true)], args := [d1, d2] }
  | _ => none }
def tinyRowRow : OpenClaim := { program := "ytmgopjeaehmbfaadoor", sum := "01005b43745d0a40eadc947025fee7e1506c2478ee799ba06839b1099b07e704", func := "wringer/wringerlaw19.TinyRow", spec := "tinyRow", inPlace := ["math/bits.Add64"], unfollowed := true, recurses := true, named := ["wringer/turn.mixes", "wringer/turn.unmixes", "wringer/blake.first", "wringer/blake.rows"], apart := false, laid := [("wringer/blake.first", laid_wringer_blake_first), ("wringer/blake.rows", laid_wringer_blake_rows), ("wringer/turn.mixes", laid_wringer_turn_mixes), ("wringer/turn.unmixes", laid_wringer_turn_unmixes)] }
def TinyRowSaid : Prop := tinyRowRow.holds Tryd.pinned (OpenSpec.ofChange tinyRowSpec)

/-- ITS FALSE NEIGHBOUR: 'it returns false'. Refute it at one input. -/
def tinyRowWrong : ChangeSpec := { name := "tinyRow", fn := fun _ => fun
  | [d1, d2] => { results := [.lit (.bool false)], args := [d1, d2] }
  | _ => none }
def TinyRowWrongFalsely : Prop := tinyRowRow.holds Tryd.pinned (OpenSpec.ofChange tinyRowWrong)

/- THE SECOND FORM. 'bulk': how many values and letters a reading holds, each counted each time it is reached (what is shared counts as often as it is met; a slice's spare places count too). A statement '..UptoSaid' is the law's where the arguments, and the package variables that the reading takes, are together of bulk at most 1048576: NARROWER than '..Said'. Prove '..Said' where nothing that the law and all that it calls make is longer than what came in: it says more and counts as full. Else prove '..UptoSaid'. A law counts once. -/
mutual
def uptoBulk {H : Type} : DataW H → Nat
  | .lit (.string bytes) => bytes.length + 1
  | .lit _ => 1
  | .nil => 1
  | .ptr d => uptoBulk d + 1
  | .slice elems spare => uptoBulkAll elems + uptoBulkAll spare + 1
  | .agg parts => uptoBulkAll parts + 1
  | .iface _ d => uptoBulk d + 1
  | .map entries => uptoBulkEntries entries + 1
  | .held _ => 1
def uptoBulkAll {H : Type} : List (DataW H) → Nat
  | [] => 0
  | d :: r => uptoBulk d + uptoBulkAll r
def uptoBulkEntries {H : Type} : List (Lit × DataW H) → Nat
  | [] => 0
  | x :: r => uptoBulkEntry x + uptoBulkEntries r
def uptoBulkEntry {H : Type} : Lit × DataW H → Nat
  | (.string bytes, d) => bytes.length + uptoBulk d + 1
  | (_, d) => uptoBulk d + 1
 end
def uptoSmall : (H : Type) → List (DataW H) → Bool := fun _ ds => decide (uptoBulkAll ds ≤ 1048576)
def OpenSpec.upto (s : _root_.Go.ChangeSpec) : _root_.Go.OpenSpec := { _root_.Go.OpenSpec.ofChange s with cond := some uptoSmall }

/-- 'wringerlaw16.EzhashParts', WHERE WHAT IT READS IS OF BULK AT MOST 1048576: true; the input reads as it did. -/
def ezhashPartsUptoRow : OpenClaim := { program := "ytmgopjeaehmbfaadoor", sum := "01005b43745d0a40eadc947025fee7e1506c2478ee799ba06839b1099b07e704", func := "wringer/wringerlaw16.EzhashParts", spec := "ezhashParts", inPlace := ["math/bits.Add64"], unfollowed := true, recurses := true, named := ["wringer/turn.mixes", "wringer/turn.unmixes", "wringer/blake.first", "wringer/blake.rows"], apart := false, laid := [("wringer/blake.first", laid_wringer_blake_first), ("wringer/blake.rows", laid_wringer_blake_rows), ("wringer/turn.mixes", laid_wringer_turn_mixes), ("wringer/turn.unmixes", laid_wringer_turn_unmixes)], narrowed := true }
def EzhashPartsUptoSaid : Prop := ezhashPartsUptoRow.holds Tryd.pinned (OpenSpec.upto ezhashPartsSpec)

/-- 'wringerlaw16.EzhashOne', WHERE WHAT IT READS IS OF BULK AT MOST 1048576: true; the input reads as it did. -/
def ezhashOneUptoRow : OpenClaim := { program := "ytmgopjeaehmbfaadoor", sum := "01005b43745d0a40eadc947025fee7e1506c2478ee799ba06839b1099b07e704", func := "wringer/wringerlaw16.EzhashOne", spec := "ezhashOne", inPlace := ["math/bits.Add64"], unfollowed := true, recurses := true, named := ["wringer/turn.mixes", "wringer/turn.unmixes", "wringer/blake.first", "wringer/blake.rows"], apart := false, laid := [("wringer/blake.first", laid_wringer_blake_first), ("wringer/blake.rows", laid_wringer_blake_rows), ("wringer/turn.mixes", laid_wringer_turn_mixes), ("wringer/turn.unmixes", laid_wringer_turn_unmixes)], narrowed := true }
def EzhashOneUptoSaid : Prop := ezhashOneUptoRow.holds Tryd.pinned (OpenSpec.upto ezhashOneSpec)

/-- 'wringerlaw16.EzhashBlocks', WHERE WHAT IT READS IS OF BULK AT MOST 1048576: true; the input reads as it did. -/
def ezhashBlocksUptoRow : OpenClaim := { program := "ytmgopjeaehmbfaadoor", sum := "01005b43745d0a40eadc947025fee7e1506c2478ee799ba06839b1099b07e704", func := "wringer/wringerlaw16.EzhashBlocks", spec := "ezhashBlocks", inPlace := ["math/bits.Add64"], unfollowed := true, recurses := true, named := ["wringer/turn.mixes", "wringer/turn.unmixes", "wringer/blake.first", "wringer/blake.rows"], apart := false, laid := [("wringer/blake.first", laid_wringer_blake_first), ("wringer/blake.rows", laid_wringer_blake_rows), ("wringer/turn.mixes", laid_wringer_turn_mixes), ("wringer/turn.unmixes", laid_wringer_turn_unmixes)], narrowed := true }
def EzhashBlocksUptoSaid : Prop := ezhashBlocksUptoRow.holds Tryd.pinned (OpenSpec.upto ezhashBlocksSpec)

/-- 'wringerlaw16.EzhashLast', WHERE WHAT IT READS IS OF BULK AT MOST 1048576: true; the input reads as it did. -/
def ezhashLastUptoRow : OpenClaim := { program := "ytmgopjeaehmbfaadoor", sum := "01005b43745d0a40eadc947025fee7e1506c2478ee799ba06839b1099b07e704", func := "wringer/wringerlaw16.EzhashLast", spec := "ezhashLast", inPlace := ["math/bits.Add64"], unfollowed := true, recurses := true, named := ["wringer/turn.mixes", "wringer/turn.unmixes", "wringer/blake.first", "wringer/blake.rows"], apart := false, laid := [("wringer/blake.first", laid_wringer_blake_first), ("wringer/blake.rows", laid_wringer_blake_rows), ("wringer/turn.mixes", laid_wringer_turn_mixes), ("wringer/turn.unmixes", laid_wringer_turn_unmixes)], narrowed := true }
def EzhashLastUptoSaid : Prop := ezhashLastUptoRow.holds Tryd.pinned (OpenSpec.upto ezhashLastSpec)

/-- 'wringerlaw16.EzhashHashes', WHERE WHAT IT READS IS OF BULK AT MOST 1048576: true; the input reads as it did. -/
def ezhashHashesUptoRow : OpenClaim := { program := "ytmgopjeaehmbfaadoor", sum := "01005b43745d0a40eadc947025fee7e1506c2478ee799ba06839b1099b07e704", func := "wringer/wringerlaw16.EzhashHashes", spec := "ezhashHashes", inPlace := ["math/bits.Add64"], unfollowed := true, recurses := true, named := ["wringer/turn.mixes", "wringer/turn.unmixes", "wringer/blake.first", "wringer/blake.rows"], apart := false, laid := [("wringer/blake.first", laid_wringer_blake_first), ("wringer/blake.rows", laid_wringer_blake_rows), ("wringer/turn.mixes", laid_wringer_turn_mixes), ("wringer/turn.unmixes", laid_wringer_turn_unmixes)], narrowed := true }
def EzhashHashesUptoSaid : Prop := ezhashHashesUptoRow.holds Tryd.pinned (OpenSpec.upto ezhashHashesSpec)

/-- 'wringerlaw16.EzhashRows', WHERE WHAT IT READS IS OF BULK AT MOST 1048576: true; the input reads as it did. -/
def ezhashRowsUptoRow : OpenClaim := { program := "ytmgopjeaehmbfaadoor", sum := "01005b43745d0a40eadc947025fee7e1506c2478ee799ba06839b1099b07e704", func := "wringer/wringerlaw16.EzhashRows", spec := "ezhashRows", inPlace := ["math/bits.Add64"], unfollowed := true, recurses := true, named := ["wringer/turn.mixes", "wringer/turn.unmixes", "wringer/blake.first", "wringer/blake.rows"], apart := false, laid := [("wringer/blake.first", laid_wringer_blake_first), ("wringer/blake.rows", laid_wringer_blake_rows), ("wringer/turn.mixes", laid_wringer_turn_mixes), ("wringer/turn.unmixes", laid_wringer_turn_unmixes)], narrowed := true }
def EzhashRowsUptoSaid : Prop := ezhashRowsUptoRow.holds Tryd.pinned (OpenSpec.upto ezhashRowsSpec)

/-- 'wringerlaw20.CoreBack', WHERE WHAT IT READS IS OF BULK AT MOST 1048576: true; the input reads as it did. -/
def coreBackUptoRow : OpenClaim := { program := "ytmgopjeaehmbfaadoor", sum := "01005b43745d0a40eadc947025fee7e1506c2478ee799ba06839b1099b07e704", func := "wringer/wringerlaw20.CoreBack", spec := "coreBack", inPlace := ["math/bits.Add64"], unfollowed := true, recurses := true, named := ["wringer/turn.mixes", "wringer/turn.unmixes", "wringer/blake.first", "wringer/blake.rows"], apart := false, laid := [("wringer/blake.first", laid_wringer_blake_first), ("wringer/blake.rows", laid_wringer_blake_rows), ("wringer/turn.mixes", laid_wringer_turn_mixes), ("wringer/turn.unmixes", laid_wringer_turn_unmixes)], narrowed := true }
def CoreBackUptoSaid : Prop := coreBackUptoRow.holds Tryd.pinned (OpenSpec.upto coreBackSpec)

/-- 'wringerlaw20.CoreApart', WHERE WHAT IT READS IS OF BULK AT MOST 1048576: true; the input reads as it did. -/
def coreApartUptoRow : OpenClaim := { program := "ytmgopjeaehmbfaadoor", sum := "01005b43745d0a40eadc947025fee7e1506c2478ee799ba06839b1099b07e704", func := "wringer/wringerlaw20.CoreApart", spec := "coreApart", inPlace := ["math/bits.Add64"], unfollowed := true, recurses := true, named := ["wringer/turn.mixes", "wringer/turn.unmixes", "wringer/blake.first", "wringer/blake.rows"], apart := false, laid := [("wringer/blake.first", laid_wringer_blake_first), ("wringer/blake.rows", laid_wringer_blake_rows), ("wringer/turn.mixes", laid_wringer_turn_mixes), ("wringer/turn.unmixes", laid_wringer_turn_unmixes)], narrowed := true }
def CoreApartUptoSaid : Prop := coreApartUptoRow.holds Tryd.pinned (OpenSpec.upto coreApartSpec)

/-- 'wringerlaw20.CoreTwo', WHERE WHAT IT READS IS OF BULK AT MOST 1048576: true; the input reads as it did. -/
def coreTwoUptoRow : OpenClaim := { program := "ytmgopjeaehmbfaadoor", sum := "01005b43745d0a40eadc947025fee7e1506c2478ee799ba06839b1099b07e704", func := "wringer/wringerlaw20.CoreTwo", spec := "coreTwo", inPlace := ["math/bits.Add64"], unfollowed := true, recurses := true, named := ["wringer/turn.mixes", "wringer/turn.unmixes", "wringer/blake.first", "wringer/blake.rows"], apart := false, laid := [("wringer/blake.first", laid_wringer_blake_first), ("wringer/blake.rows", laid_wringer_blake_rows), ("wringer/turn.mixes", laid_wringer_turn_mixes), ("wringer/turn.unmixes", laid_wringer_turn_unmixes)], narrowed := true }
def CoreTwoUptoSaid : Prop := coreTwoUptoRow.holds Tryd.pinned (OpenSpec.upto coreTwoSpec)

/-- 'wringerlaw20.CoreMiddle', WHERE WHAT IT READS IS OF BULK AT MOST 1048576: true; the input reads as it did. -/
def coreMiddleUptoRow : OpenClaim := { program := "ytmgopjeaehmbfaadoor", sum := "01005b43745d0a40eadc947025fee7e1506c2478ee799ba06839b1099b07e704", func := "wringer/wringerlaw20.CoreMiddle", spec := "coreMiddle", inPlace := ["math/bits.Add64"], unfollowed := true, recurses := true, named := ["wringer/turn.mixes", "wringer/turn.unmixes", "wringer/blake.first", "wringer/blake.rows"], apart := false, laid := [("wringer/blake.first", laid_wringer_blake_first), ("wringer/blake.rows", laid_wringer_blake_rows), ("wringer/turn.mixes", laid_wringer_turn_mixes), ("wringer/turn.unmixes", laid_wringer_turn_unmixes)], narrowed := true }
def CoreMiddleUptoSaid : Prop := coreMiddleUptoRow.holds Tryd.pinned (OpenSpec.upto coreMiddleSpec)

/-- 'wringerlaw20.CoreRow', WHERE WHAT IT READS IS OF BULK AT MOST 1048576: true; the input reads as it did. -/
def coreRowUptoRow : OpenClaim := { program := "ytmgopjeaehmbfaadoor", sum := "01005b43745d0a40eadc947025fee7e1506c2478ee799ba06839b1099b07e704", func := "wringer/wringerlaw20.CoreRow", spec := "coreRow", inPlace := ["math/bits.Add64"], unfollowed := true, recurses := true, named := ["wringer/turn.mixes", "wringer/turn.unmixes", "wringer/blake.first", "wringer/blake.rows"], apart := false, laid := [("wringer/blake.first", laid_wringer_blake_first), ("wringer/blake.rows", laid_wringer_blake_rows), ("wringer/turn.mixes", laid_wringer_turn_mixes), ("wringer/turn.unmixes", laid_wringer_turn_unmixes)], narrowed := true }
def CoreRowUptoSaid : Prop := coreRowUptoRow.holds Tryd.pinned (OpenSpec.upto coreRowSpec)

/-- 'wringerlaw19.TinyBack', WHERE WHAT IT READS IS OF BULK AT MOST 1048576: true; the input reads as it did. -/
def tinyBackUptoRow : OpenClaim := { program := "ytmgopjeaehmbfaadoor", sum := "01005b43745d0a40eadc947025fee7e1506c2478ee799ba06839b1099b07e704", func := "wringer/wringerlaw19.TinyBack", spec := "tinyBack", inPlace := ["math/bits.Add64"], unfollowed := true, recurses := true, named := ["wringer/turn.mixes", "wringer/turn.unmixes", "wringer/blake.first", "wringer/blake.rows"], apart := false, laid := [("wringer/blake.first", laid_wringer_blake_first), ("wringer/blake.rows", laid_wringer_blake_rows), ("wringer/turn.mixes", laid_wringer_turn_mixes), ("wringer/turn.unmixes", laid_wringer_turn_unmixes)], narrowed := true }
def TinyBackUptoSaid : Prop := tinyBackUptoRow.holds Tryd.pinned (OpenSpec.upto tinyBackSpec)

/-- 'wringerlaw19.TinyApart', WHERE WHAT IT READS IS OF BULK AT MOST 1048576: true; the input reads as it did. -/
def tinyApartUptoRow : OpenClaim := { program := "ytmgopjeaehmbfaadoor", sum := "01005b43745d0a40eadc947025fee7e1506c2478ee799ba06839b1099b07e704", func := "wringer/wringerlaw19.TinyApart", spec := "tinyApart", inPlace := ["math/bits.Add64"], unfollowed := true, recurses := true, named := ["wringer/turn.mixes", "wringer/turn.unmixes", "wringer/blake.first", "wringer/blake.rows"], apart := false, laid := [("wringer/blake.first", laid_wringer_blake_first), ("wringer/blake.rows", laid_wringer_blake_rows), ("wringer/turn.mixes", laid_wringer_turn_mixes), ("wringer/turn.unmixes", laid_wringer_turn_unmixes)], narrowed := true }
def TinyApartUptoSaid : Prop := tinyApartUptoRow.holds Tryd.pinned (OpenSpec.upto tinyApartSpec)

/-- 'wringerlaw19.TinyFlips', WHERE WHAT IT READS IS OF BULK AT MOST 1048576: true; the input reads as it did. -/
def tinyFlipsUptoRow : OpenClaim := { program := "ytmgopjeaehmbfaadoor", sum := "01005b43745d0a40eadc947025fee7e1506c2478ee799ba06839b1099b07e704", func := "wringer/wringerlaw19.TinyFlips", spec := "tinyFlips", inPlace := ["math/bits.Add64"], unfollowed := true, recurses := true, named := ["wringer/turn.mixes", "wringer/turn.unmixes", "wringer/blake.first", "wringer/blake.rows"], apart := false, laid := [("wringer/blake.first", laid_wringer_blake_first), ("wringer/blake.rows", laid_wringer_blake_rows), ("wringer/turn.mixes", laid_wringer_turn_mixes), ("wringer/turn.unmixes", laid_wringer_turn_unmixes)], narrowed := true }
def TinyFlipsUptoSaid : Prop := tinyFlipsUptoRow.holds Tryd.pinned (OpenSpec.upto tinyFlipsSpec)

/-- 'wringerlaw19.TinySteady', WHERE WHAT IT READS IS OF BULK AT MOST 1048576: true; the input reads as it did. -/
def tinySteadyUptoRow : OpenClaim := { program := "ytmgopjeaehmbfaadoor", sum := "01005b43745d0a40eadc947025fee7e1506c2478ee799ba06839b1099b07e704", func := "wringer/wringerlaw19.TinySteady", spec := "tinySteady", inPlace := ["math/bits.Add64"], unfollowed := true, recurses := true, named := ["wringer/turn.mixes", "wringer/turn.unmixes", "wringer/blake.first", "wringer/blake.rows"], apart := false, laid := [("wringer/blake.first", laid_wringer_blake_first), ("wringer/blake.rows", laid_wringer_blake_rows), ("wringer/turn.mixes", laid_wringer_turn_mixes), ("wringer/turn.unmixes", laid_wringer_turn_unmixes)], narrowed := true }
def TinySteadyUptoSaid : Prop := tinySteadyUptoRow.holds Tryd.pinned (OpenSpec.upto tinySteadySpec)

/-- 'wringerlaw19.TinyRow', WHERE WHAT IT READS IS OF BULK AT MOST 1048576: true; the input reads as it did. -/
def tinyRowUptoRow : OpenClaim := { program := "ytmgopjeaehmbfaadoor", sum := "01005b43745d0a40eadc947025fee7e1506c2478ee799ba06839b1099b07e704", func := "wringer/wringerlaw19.TinyRow", spec := "tinyRow", inPlace := ["math/bits.Add64"], unfollowed := true, recurses := true, named := ["wringer/turn.mixes", "wringer/turn.unmixes", "wringer/blake.first", "wringer/blake.rows"], apart := false, laid := [("wringer/blake.first", laid_wringer_blake_first), ("wringer/blake.rows", laid_wringer_blake_rows), ("wringer/turn.mixes", laid_wringer_turn_mixes), ("wringer/turn.unmixes", laid_wringer_turn_unmixes)], narrowed := true }
def TinyRowUptoSaid : Prop := tinyRowUptoRow.holds Tryd.pinned (OpenSpec.upto tinyRowSpec)

end Rows
end Go.Proofs.YtmgopjeaehmbfaaDoor
