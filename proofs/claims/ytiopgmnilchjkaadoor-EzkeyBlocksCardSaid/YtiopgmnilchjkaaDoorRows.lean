/-
  NARROWER THAN 'FOR EVERY INPUT', by the rows' own cells (each row's printed sentence says how): EzkeyKeys: laid · EzkeyBlocks: laid · EzkeyApart: laid · EzkeyShift: laid · EzkeyTen: laid · EzkeyOffsets: laid · EzkeyRow: laid · EzhashParts: laid · EzhashOne: laid · EzhashBlocks: laid · EzhashLast: laid · EzhashHashes: laid · EzhashRows: laid.
  DERIVED. THE GIVEN ROWS OF THIS SEAT. 13 by the template 'for every input the law returns true; each argument reads behind the call as it read before'; 0 by the template 'total and deterministic' (their statements: YtiopgmnilchjkaaDoorTotals.lean).
  GIVEN WITH THE SEED: the statements are not yours to turn. If you find one false, say at which input.
  Laid BY PROGRAM, IN A SANDBOX (cutbox-rows.mjs): the forced cells as the released guide's own fill.sh prints them over the translation 0fcf382232b9e86b… (all of the seat's roots in one cut). By AI agents, Wed Nov 11 2026. No macro, syntax, notation, axiom, sorry.
-/
import Derived.Test.YtiopgmnilchjkaaDoorChecked
import GoSem.Claim
import GoSem.ClaimJoined
import GoSem.ClaimMapViews
import Derived.JoinedTies
import Derived.KernelRfl
namespace Go.Proofs.YtiopgmnilchjkaaDoor
/- THE CELL 'sum', in the pinned program and in every row, IS THE sha256 OF THE DUMP (.gsa) THAT YtiopgmnilchjkaaDoorProg.lean LOADS. Nothing in Lean hashes anything: it is a label: what it is worth is what the hold of that sum in a sandbox is worth. -/
noncomputable def Tryd.pinned : Pinned := { name := "ytiopgmnilchjkaadoor", sum := "0fcf382232b9e86b147b991b3c1073bf82b924c004ad1f703e8915b54205df48", checked := Tryd.checked }
namespace Rows
def none {H : Type} : Left H := { results := [], args := [] }

/- WHAT THE LISTED PACKAGE-LEVEL VARIABLES READ AS WHEN THE CALL BEGINS. Each datum BY PROGRAM (the guide's laid-datum.mjs) off the statement by which the dump's own 'gosem.cut.vars' lays the variable. In a bare row this is a premise. The card (YtiopgmnilchjkaaDoorCards.lean) ties it to the program's text. -/
def laid_wringer_blake_first {H : Type} : DataW H := .agg [.lit (.int .u64 7640891576956012808), .lit (.int .u64 13503953896175478587), .lit (.int .u64 4354685564936845355), .lit (.int .u64 11912009170470909681), .lit (.int .u64 5840696475078001361), .lit (.int .u64 11170449401992604703), .lit (.int .u64 2270897969802886507), .lit (.int .u64 6620516959819538809)]
def laid_wringer_blake_rows {H : Type} : DataW H := .agg [.agg [.lit (.int .u8 0), .lit (.int .u8 1), .lit (.int .u8 2), .lit (.int .u8 3), .lit (.int .u8 4), .lit (.int .u8 5), .lit (.int .u8 6), .lit (.int .u8 7), .lit (.int .u8 8), .lit (.int .u8 9), .lit (.int .u8 10), .lit (.int .u8 11), .lit (.int .u8 12), .lit (.int .u8 13), .lit (.int .u8 14), .lit (.int .u8 15)], .agg [.lit (.int .u8 14), .lit (.int .u8 10), .lit (.int .u8 4), .lit (.int .u8 8), .lit (.int .u8 9), .lit (.int .u8 15), .lit (.int .u8 13), .lit (.int .u8 6), .lit (.int .u8 1), .lit (.int .u8 12), .lit (.int .u8 0), .lit (.int .u8 2), .lit (.int .u8 11), .lit (.int .u8 7), .lit (.int .u8 5), .lit (.int .u8 3)], .agg [.lit (.int .u8 11), .lit (.int .u8 8), .lit (.int .u8 12), .lit (.int .u8 0), .lit (.int .u8 5), .lit (.int .u8 2), .lit (.int .u8 15), .lit (.int .u8 13), .lit (.int .u8 10), .lit (.int .u8 14), .lit (.int .u8 3), .lit (.int .u8 6), .lit (.int .u8 7), .lit (.int .u8 1), .lit (.int .u8 9), .lit (.int .u8 4)], .agg [.lit (.int .u8 7), .lit (.int .u8 9), .lit (.int .u8 3), .lit (.int .u8 1), .lit (.int .u8 13), .lit (.int .u8 12), .lit (.int .u8 11), .lit (.int .u8 14), .lit (.int .u8 2), .lit (.int .u8 6), .lit (.int .u8 5), .lit (.int .u8 10), .lit (.int .u8 4), .lit (.int .u8 0), .lit (.int .u8 15), .lit (.int .u8 8)], .agg [.lit (.int .u8 9), .lit (.int .u8 0), .lit (.int .u8 5), .lit (.int .u8 7), .lit (.int .u8 2), .lit (.int .u8 4), .lit (.int .u8 10), .lit (.int .u8 15), .lit (.int .u8 14), .lit (.int .u8 1), .lit (.int .u8 11), .lit (.int .u8 12), .lit (.int .u8 6), .lit (.int .u8 8), .lit (.int .u8 3), .lit (.int .u8 13)], .agg [.lit (.int .u8 2), .lit (.int .u8 12), .lit (.int .u8 6), .lit (.int .u8 10), .lit (.int .u8 0), .lit (.int .u8 11), .lit (.int .u8 8), .lit (.int .u8 3), .lit (.int .u8 4), .lit (.int .u8 13), .lit (.int .u8 7), .lit (.int .u8 5), .lit (.int .u8 15), .lit (.int .u8 14), .lit (.int .u8 1), .lit (.int .u8 9)], .agg [.lit (.int .u8 12), .lit (.int .u8 5), .lit (.int .u8 1), .lit (.int .u8 15), .lit (.int .u8 14), .lit (.int .u8 13), .lit (.int .u8 4), .lit (.int .u8 10), .lit (.int .u8 0), .lit (.int .u8 7), .lit (.int .u8 6), .lit (.int .u8 3), .lit (.int .u8 9), .lit (.int .u8 2), .lit (.int .u8 8), .lit (.int .u8 11)], .agg [.lit (.int .u8 13), .lit (.int .u8 11), .lit (.int .u8 7), .lit (.int .u8 14), .lit (.int .u8 12), .lit (.int .u8 1), .lit (.int .u8 3), .lit (.int .u8 9), .lit (.int .u8 5), .lit (.int .u8 0), .lit (.int .u8 15), .lit (.int .u8 4), .lit (.int .u8 8), .lit (.int .u8 6), .lit (.int .u8 2), .lit (.int .u8 10)], .agg [.lit (.int .u8 6), .lit (.int .u8 15), .lit (.int .u8 14), .lit (.int .u8 9), .lit (.int .u8 11), .lit (.int .u8 3), .lit (.int .u8 0), .lit (.int .u8 8), .lit (.int .u8 12), .lit (.int .u8 2), .lit (.int .u8 13), .lit (.int .u8 7), .lit (.int .u8 1), .lit (.int .u8 4), .lit (.int .u8 10), .lit (.int .u8 5)], .agg [.lit (.int .u8 10), .lit (.int .u8 2), .lit (.int .u8 8), .lit (.int .u8 4), .lit (.int .u8 7), .lit (.int .u8 6), .lit (.int .u8 1), .lit (.int .u8 5), .lit (.int .u8 15), .lit (.int .u8 11), .lit (.int .u8 9), .lit (.int .u8 14), .lit (.int .u8 3), .lit (.int .u8 12), .lit (.int .u8 13), .lit (.int .u8 0)]]
def laid_wringer_turn_mixes {H : Type} : DataW H := .agg [.lit (.int .u8 2), .lit (.int .u8 3), .lit (.int .u8 1), .lit (.int .u8 1)]
def laid_wringer_turn_unmixes {H : Type} : DataW H := .agg [.lit (.int .u8 14), .lit (.int .u8 11), .lit (.int .u8 13), .lit (.int .u8 9)]

/-- 'wringerlaw15.EzkeyKeys': WHATEVER THE INPUT: true; the input reads as it did. -/
def ezkeyKeysSpec : ChangeSpec := { name := "ezkeyKeys", fn := fun _ => fun
  | [d1, d2] => { results := [.lit (.bool true)], args := [d1, d2] }
  | _ => none }
def ezkeyKeysRow : OpenClaim := { program := "ytiopgmnilchjkaadoor", sum := "0fcf382232b9e86b147b991b3c1073bf82b924c004ad1f703e8915b54205df48", func := "wringer/wringerlaw15.EzkeyKeys", spec := "ezkeyKeys", inPlace := ["math/bits.Add64"], unfollowed := true, recurses := true, named := ["wringer/turn.mixes", "wringer/turn.unmixes", "wringer/blake.first", "wringer/blake.rows"], apart := false, laid := [("wringer/blake.first", laid_wringer_blake_first), ("wringer/blake.rows", laid_wringer_blake_rows), ("wringer/turn.mixes", laid_wringer_turn_mixes), ("wringer/turn.unmixes", laid_wringer_turn_unmixes)] }
def EzkeyKeysSaid : Prop := ezkeyKeysRow.holds Tryd.pinned (OpenSpec.ofChange ezkeyKeysSpec)

/-- ITS FALSE NEIGHBOUR: 'it returns false'. Refute it at one input. -/
def ezkeyKeysWrong : ChangeSpec := { name := "ezkeyKeys", fn := fun _ => fun
  | [d1, d2] => { results := [.lit (.bool false)], args := [d1, d2] }
  | _ => none }
def EzkeyKeysWrongFalsely : Prop := ezkeyKeysRow.holds Tryd.pinned (OpenSpec.ofChange ezkeyKeysWrong)

/-- 'wringerlaw15.EzkeyBlocks': WHATEVER THE INPUT: true; the input reads as it did. -/
def ezkeyBlocksSpec : ChangeSpec := { name := "ezkeyBlocks", fn := fun _ => fun
  | [d] => { results := [.lit (.bool true)], args := [d] }
  | _ => none }
def ezkeyBlocksRow : OpenClaim := { program := "ytiopgmnilchjkaadoor", sum := "0fcf382232b9e86b147b991b3c1073bf82b924c004ad1f703e8915b54205df48", func := "wringer/wringerlaw15.EzkeyBlocks", spec := "ezkeyBlocks", inPlace := ["math/bits.Add64"], unfollowed := true, recurses := true, named := ["wringer/turn.mixes", "wringer/turn.unmixes", "wringer/blake.first", "wringer/blake.rows"], apart := false, laid := [("wringer/blake.first", laid_wringer_blake_first), ("wringer/blake.rows", laid_wringer_blake_rows), ("wringer/turn.mixes", laid_wringer_turn_mixes), ("wringer/turn.unmixes", laid_wringer_turn_unmixes)] }
def EzkeyBlocksSaid : Prop := ezkeyBlocksRow.holds Tryd.pinned (OpenSpec.ofChange ezkeyBlocksSpec)

/-- ITS FALSE NEIGHBOUR: 'it returns false'. Refute it at one input. -/
def ezkeyBlocksWrong : ChangeSpec := { name := "ezkeyBlocks", fn := fun _ => fun
  | [d] => { results := [.lit (.bool false)], args := [d] }
  | _ => none }
def EzkeyBlocksWrongFalsely : Prop := ezkeyBlocksRow.holds Tryd.pinned (OpenSpec.ofChange ezkeyBlocksWrong)

/-- 'wringerlaw15.EzkeyApart': WHATEVER THE INPUT: true; the input reads as it did. -/
def ezkeyApartSpec : ChangeSpec := { name := "ezkeyApart", fn := fun _ => fun
  | [d1, d2] => { results := [.lit (.bool true)], args := [d1, d2] }
  | _ => none }
def ezkeyApartRow : OpenClaim := { program := "ytiopgmnilchjkaadoor", sum := "0fcf382232b9e86b147b991b3c1073bf82b924c004ad1f703e8915b54205df48", func := "wringer/wringerlaw15.EzkeyApart", spec := "ezkeyApart", inPlace := ["math/bits.Add64"], unfollowed := true, recurses := true, named := ["wringer/turn.mixes", "wringer/turn.unmixes", "wringer/blake.first", "wringer/blake.rows"], apart := false, laid := [("wringer/blake.first", laid_wringer_blake_first), ("wringer/blake.rows", laid_wringer_blake_rows), ("wringer/turn.mixes", laid_wringer_turn_mixes), ("wringer/turn.unmixes", laid_wringer_turn_unmixes)] }
def EzkeyApartSaid : Prop := ezkeyApartRow.holds Tryd.pinned (OpenSpec.ofChange ezkeyApartSpec)

/-- ITS FALSE NEIGHBOUR: 'it returns false'. Refute it at one input. -/
def ezkeyApartWrong : ChangeSpec := { name := "ezkeyApart", fn := fun _ => fun
  | [d1, d2] => { results := [.lit (.bool false)], args := [d1, d2] }
  | _ => none }
def EzkeyApartWrongFalsely : Prop := ezkeyApartRow.holds Tryd.pinned (OpenSpec.ofChange ezkeyApartWrong)

/-- 'wringerlaw15.EzkeyShift': WHATEVER THE INPUT: true; the input reads as it did. -/
def ezkeyShiftSpec : ChangeSpec := { name := "ezkeyShift", fn := fun _ => fun
  | [d] => { results := [.lit (.bool true)], args := [d] }
  | _ => none }
def ezkeyShiftRow : OpenClaim := { program := "ytiopgmnilchjkaadoor", sum := "0fcf382232b9e86b147b991b3c1073bf82b924c004ad1f703e8915b54205df48", func := "wringer/wringerlaw15.EzkeyShift", spec := "ezkeyShift", inPlace := ["math/bits.Add64"], unfollowed := true, recurses := true, named := ["wringer/turn.mixes", "wringer/turn.unmixes", "wringer/blake.first", "wringer/blake.rows"], apart := false, laid := [("wringer/blake.first", laid_wringer_blake_first), ("wringer/blake.rows", laid_wringer_blake_rows), ("wringer/turn.mixes", laid_wringer_turn_mixes), ("wringer/turn.unmixes", laid_wringer_turn_unmixes)] }
def EzkeyShiftSaid : Prop := ezkeyShiftRow.holds Tryd.pinned (OpenSpec.ofChange ezkeyShiftSpec)

/-- ITS FALSE NEIGHBOUR: 'it returns false'. Refute it at one input. -/
def ezkeyShiftWrong : ChangeSpec := { name := "ezkeyShift", fn := fun _ => fun
  | [d] => { results := [.lit (.bool false)], args := [d] }
  | _ => none }
def EzkeyShiftWrongFalsely : Prop := ezkeyShiftRow.holds Tryd.pinned (OpenSpec.ofChange ezkeyShiftWrong)

/-- 'wringerlaw15.EzkeyTen': WHATEVER THE INPUT: true; the input reads as it did. -/
def ezkeyTenSpec : ChangeSpec := { name := "ezkeyTen", fn := fun _ => fun
  | [d] => { results := [.lit (.bool true)], args := [d] }
  | _ => none }
def ezkeyTenRow : OpenClaim := { program := "ytiopgmnilchjkaadoor", sum := "0fcf382232b9e86b147b991b3c1073bf82b924c004ad1f703e8915b54205df48", func := "wringer/wringerlaw15.EzkeyTen", spec := "ezkeyTen", inPlace := ["math/bits.Add64"], unfollowed := true, recurses := true, named := ["wringer/turn.mixes", "wringer/turn.unmixes", "wringer/blake.first", "wringer/blake.rows"], apart := false, laid := [("wringer/blake.first", laid_wringer_blake_first), ("wringer/blake.rows", laid_wringer_blake_rows), ("wringer/turn.mixes", laid_wringer_turn_mixes), ("wringer/turn.unmixes", laid_wringer_turn_unmixes)] }
def EzkeyTenSaid : Prop := ezkeyTenRow.holds Tryd.pinned (OpenSpec.ofChange ezkeyTenSpec)

/-- ITS FALSE NEIGHBOUR: 'it returns false'. Refute it at one input. -/
def ezkeyTenWrong : ChangeSpec := { name := "ezkeyTen", fn := fun _ => fun
  | [d] => { results := [.lit (.bool false)], args := [d] }
  | _ => none }
def EzkeyTenWrongFalsely : Prop := ezkeyTenRow.holds Tryd.pinned (OpenSpec.ofChange ezkeyTenWrong)

/-- 'wringerlaw15.EzkeyOffsets': WHATEVER THE INPUT: true; the input reads as it did. -/
def ezkeyOffsetsSpec : ChangeSpec := { name := "ezkeyOffsets", fn := fun _ => fun
  | [d1, d2] => { results := [.lit (.bool true)], args := [d1, d2] }
  | _ => none }
def ezkeyOffsetsRow : OpenClaim := { program := "ytiopgmnilchjkaadoor", sum := "0fcf382232b9e86b147b991b3c1073bf82b924c004ad1f703e8915b54205df48", func := "wringer/wringerlaw15.EzkeyOffsets", spec := "ezkeyOffsets", inPlace := ["math/bits.Add64"], unfollowed := true, recurses := true, named := ["wringer/turn.mixes", "wringer/turn.unmixes", "wringer/blake.first", "wringer/blake.rows"], apart := false, laid := [("wringer/blake.first", laid_wringer_blake_first), ("wringer/blake.rows", laid_wringer_blake_rows), ("wringer/turn.mixes", laid_wringer_turn_mixes), ("wringer/turn.unmixes", laid_wringer_turn_unmixes)] }
def EzkeyOffsetsSaid : Prop := ezkeyOffsetsRow.holds Tryd.pinned (OpenSpec.ofChange ezkeyOffsetsSpec)

/-- ITS FALSE NEIGHBOUR: 'it returns false'. Refute it at one input. -/
def ezkeyOffsetsWrong : ChangeSpec := { name := "ezkeyOffsets", fn := fun _ => fun
  | [d1, d2] => { results := [.lit (.bool false)], args := [d1, d2] }
  | _ => none }
def EzkeyOffsetsWrongFalsely : Prop := ezkeyOffsetsRow.holds Tryd.pinned (OpenSpec.ofChange ezkeyOffsetsWrong)

/-- 'wringerlaw15.EzkeyRow': WHATEVER THE INPUT: true; the input reads as it did. -/
def ezkeyRowSpec : ChangeSpec := { name := "ezkeyRow", fn := fun _ => fun
  | [d1, d2] => { results := [.lit (.bool true)], args := [d1, d2] }
  | _ => none }
def ezkeyRowRow : OpenClaim := { program := "ytiopgmnilchjkaadoor", sum := "0fcf382232b9e86b147b991b3c1073bf82b924c004ad1f703e8915b54205df48", func := "wringer/wringerlaw15.EzkeyRow", spec := "ezkeyRow", inPlace := ["math/bits.Add64"], unfollowed := true, recurses := true, named := ["wringer/turn.mixes", "wringer/turn.unmixes", "wringer/blake.first", "wringer/blake.rows"], apart := false, laid := [("wringer/blake.first", laid_wringer_blake_first), ("wringer/blake.rows", laid_wringer_blake_rows), ("wringer/turn.mixes", laid_wringer_turn_mixes), ("wringer/turn.unmixes", laid_wringer_turn_unmixes)] }
def EzkeyRowSaid : Prop := ezkeyRowRow.holds Tryd.pinned (OpenSpec.ofChange ezkeyRowSpec)

/-- ITS FALSE NEIGHBOUR: 'it returns false'. Refute it at one input. -/
def ezkeyRowWrong : ChangeSpec := { name := "ezkeyRow", fn := fun _ => fun
  | [d1, d2] => { results := [.lit (.bool false)], args := [d1, d2] }
  | _ => none }
def EzkeyRowWrongFalsely : Prop := ezkeyRowRow.holds Tryd.pinned (OpenSpec.ofChange ezkeyRowWrong)

/-- 'wringerlaw16.EzhashParts': WHATEVER THE INPUT: true; the input reads as it did. -/
def ezhashPartsSpec : ChangeSpec := { name := "ezhashParts", fn := fun _ => fun
  | [d1, d2, d3] => { results := [.lit (.bool true)], args := [d1, d2, d3] }
  | _ => none }
def ezhashPartsRow : OpenClaim := { program := "ytiopgmnilchjkaadoor", sum := "0fcf382232b9e86b147b991b3c1073bf82b924c004ad1f703e8915b54205df48", func := "wringer/wringerlaw16.EzhashParts", spec := "ezhashParts", inPlace := ["math/bits.Add64"], unfollowed := true, recurses := true, named := ["wringer/turn.mixes", "wringer/turn.unmixes", "wringer/blake.first", "wringer/blake.rows"], apart := false, laid := [("wringer/blake.first", laid_wringer_blake_first), ("wringer/blake.rows", laid_wringer_blake_rows), ("wringer/turn.mixes", laid_wringer_turn_mixes), ("wringer/turn.unmixes", laid_wringer_turn_unmixes)] }
def EzhashPartsSaid : Prop := ezhashPartsRow.holds Tryd.pinned (OpenSpec.ofChange ezhashPartsSpec)

/-- ITS FALSE NEIGHBOUR: 'it returns false'. Refute it at one input. -/
def ezhashPartsWrong : ChangeSpec := { name := "ezhashParts", fn := fun _ => fun
  | [d1, d2, d3] => { results := [.lit (.bool false)], args := [d1, d2, d3] }
  | _ => none }
def EzhashPartsWrongFalsely : Prop := ezhashPartsRow.holds Tryd.pinned (OpenSpec.ofChange ezhashPartsWrong)

/-- 'wringerlaw16.EzhashOne': WHATEVER THE INPUT: true; the input reads as it did. -/
def ezhashOneSpec : ChangeSpec := { name := "ezhashOne", fn := fun _ => fun
  | [d1, d2, d3] => { results := [.lit (.bool true)], args := [d1, d2, d3] }
  | _ => none }
def ezhashOneRow : OpenClaim := { program := "ytiopgmnilchjkaadoor", sum := "0fcf382232b9e86b147b991b3c1073bf82b924c004ad1f703e8915b54205df48", func := "wringer/wringerlaw16.EzhashOne", spec := "ezhashOne", inPlace := ["math/bits.Add64"], unfollowed := true, recurses := true, named := ["wringer/turn.mixes", "wringer/turn.unmixes", "wringer/blake.first", "wringer/blake.rows"], apart := false, laid := [("wringer/blake.first", laid_wringer_blake_first), ("wringer/blake.rows", laid_wringer_blake_rows), ("wringer/turn.mixes", laid_wringer_turn_mixes), ("wringer/turn.unmixes", laid_wringer_turn_unmixes)] }
def EzhashOneSaid : Prop := ezhashOneRow.holds Tryd.pinned (OpenSpec.ofChange ezhashOneSpec)

/-- ITS FALSE NEIGHBOUR: 'it returns false'. Refute it at one input. -/
def ezhashOneWrong : ChangeSpec := { name := "ezhashOne", fn := fun _ => fun
  | [d1, d2, d3] => { results := [.lit (.bool false)], args := [d1, d2, d3] }
  | _ => none }
def EzhashOneWrongFalsely : Prop := ezhashOneRow.holds Tryd.pinned (OpenSpec.ofChange ezhashOneWrong)

/-- 'wringerlaw16.EzhashBlocks': WHATEVER THE INPUT: true; the input reads as it did. -/
def ezhashBlocksSpec : ChangeSpec := { name := "ezhashBlocks", fn := fun _ => fun
  | [d1, d2, d3] => { results := [.lit (.bool true)], args := [d1, d2, d3] }
  | _ => none }
def ezhashBlocksRow : OpenClaim := { program := "ytiopgmnilchjkaadoor", sum := "0fcf382232b9e86b147b991b3c1073bf82b924c004ad1f703e8915b54205df48", func := "wringer/wringerlaw16.EzhashBlocks", spec := "ezhashBlocks", inPlace := ["math/bits.Add64"], unfollowed := true, recurses := true, named := ["wringer/turn.mixes", "wringer/turn.unmixes", "wringer/blake.first", "wringer/blake.rows"], apart := false, laid := [("wringer/blake.first", laid_wringer_blake_first), ("wringer/blake.rows", laid_wringer_blake_rows), ("wringer/turn.mixes", laid_wringer_turn_mixes), ("wringer/turn.unmixes", laid_wringer_turn_unmixes)] }
def EzhashBlocksSaid : Prop := ezhashBlocksRow.holds Tryd.pinned (OpenSpec.ofChange ezhashBlocksSpec)

/-- ITS FALSE NEIGHBOUR: 'it returns false'. Refute it at one input. -/
def ezhashBlocksWrong : ChangeSpec := { name := "ezhashBlocks", fn := fun _ => fun
  | [d1, d2, d3] => { results := [.lit (.bool false)], args := [d1, d2, d3] }
  | _ => none }
def EzhashBlocksWrongFalsely : Prop := ezhashBlocksRow.holds Tryd.pinned (OpenSpec.ofChange ezhashBlocksWrong)

/-- 'wringerlaw16.EzhashLast': WHATEVER THE INPUT: true; the input reads as it did. -/
def ezhashLastSpec : ChangeSpec := { name := "ezhashLast", fn := fun _ => fun
  | [d] => { results := [.lit (.bool true)], args := [d] }
  | _ => none }
def ezhashLastRow : OpenClaim := { program := "ytiopgmnilchjkaadoor", sum := "0fcf382232b9e86b147b991b3c1073bf82b924c004ad1f703e8915b54205df48", func := "wringer/wringerlaw16.EzhashLast", spec := "ezhashLast", inPlace := ["math/bits.Add64"], unfollowed := true, recurses := true, named := ["wringer/turn.mixes", "wringer/turn.unmixes", "wringer/blake.first", "wringer/blake.rows"], apart := false, laid := [("wringer/blake.first", laid_wringer_blake_first), ("wringer/blake.rows", laid_wringer_blake_rows), ("wringer/turn.mixes", laid_wringer_turn_mixes), ("wringer/turn.unmixes", laid_wringer_turn_unmixes)] }
def EzhashLastSaid : Prop := ezhashLastRow.holds Tryd.pinned (OpenSpec.ofChange ezhashLastSpec)

/-- ITS FALSE NEIGHBOUR: 'it returns false'. Refute it at one input. -/
def ezhashLastWrong : ChangeSpec := { name := "ezhashLast", fn := fun _ => fun
  | [d] => { results := [.lit (.bool false)], args := [d] }
  | _ => none }
def EzhashLastWrongFalsely : Prop := ezhashLastRow.holds Tryd.pinned (OpenSpec.ofChange ezhashLastWrong)

/-- 'wringerlaw16.EzhashHashes': WHATEVER THE INPUT: true; the input reads as it did. -/
def ezhashHashesSpec : ChangeSpec := { name := "ezhashHashes", fn := fun _ => fun
  | [d1, d2, d3] => { results := [.lit (.bool true)], args := [d1, d2, d3] }
  | _ => none }
def ezhashHashesRow : OpenClaim := { program := "ytiopgmnilchjkaadoor", sum := "0fcf382232b9e86b147b991b3c1073bf82b924c004ad1f703e8915b54205df48", func := "wringer/wringerlaw16.EzhashHashes", spec := "ezhashHashes", inPlace := ["math/bits.Add64"], unfollowed := true, recurses := true, named := ["wringer/turn.mixes", "wringer/turn.unmixes", "wringer/blake.first", "wringer/blake.rows"], apart := false, laid := [("wringer/blake.first", laid_wringer_blake_first), ("wringer/blake.rows", laid_wringer_blake_rows), ("wringer/turn.mixes", laid_wringer_turn_mixes), ("wringer/turn.unmixes", laid_wringer_turn_unmixes)] }
def EzhashHashesSaid : Prop := ezhashHashesRow.holds Tryd.pinned (OpenSpec.ofChange ezhashHashesSpec)

/-- ITS FALSE NEIGHBOUR: 'it returns false'. Refute it at one input. -/
def ezhashHashesWrong : ChangeSpec := { name := "ezhashHashes", fn := fun _ => fun
  | [d1, d2, d3] => { results := [.lit (.bool false)], args := [d1, d2, d3] }
  | _ => none }
def EzhashHashesWrongFalsely : Prop := ezhashHashesRow.holds Tryd.pinned (OpenSpec.ofChange ezhashHashesWrong)

/-- 'wringerlaw16.EzhashRows': WHATEVER THE INPUT: true; the input reads as it did. -/
def ezhashRowsSpec : ChangeSpec := { name := "ezhashRows", fn := fun _ => fun
  | [d1, d2, d3] => { results := [.lit (.bool true)], args := [d1, d2, d3] }
  | _ => none }
def ezhashRowsRow : OpenClaim := { program := "ytiopgmnilchjkaadoor", sum := "0fcf382232b9e86b147b991b3c1073bf82b924c004ad1f703e8915b54205df48", func := "wringer/wringerlaw16.EzhashRows", spec := "ezhashRows", inPlace := ["math/bits.Add64"], unfollowed := true, recurses := true, named := ["wringer/turn.mixes", "wringer/turn.unmixes", "wringer/blake.first", "wringer/blake.rows"], apart := false, laid := [("wringer/blake.first", laid_wringer_blake_first), ("wringer/blake.rows", laid_wringer_blake_rows), ("wringer/turn.mixes", laid_wringer_turn_mixes), ("wringer/turn.unmixes", laid_wringer_turn_unmixes)] }
def EzhashRowsSaid : Prop := ezhashRowsRow.holds Tryd.pinned (OpenSpec.ofChange ezhashRowsSpec)

/-- ITS FALSE NEIGHBOUR: 'it returns false'. Refute it at one input. -/
def ezhashRowsWrong : ChangeSpec := { name := "ezhashRows", fn := fun _ => fun
  | [d1, d2, d3] => { results := [.lit (.bool false)], args := [d1, d2, d3] }
  | _ => none }
def EzhashRowsWrongFalsely : Prop := ezhashRowsRow.holds Tryd.pinned (OpenSpec.ofChange ezhashRowsWrong)

/- THE SECOND FORM. 'bulk': how many values and letters a reading holds, each counted each time it is reached (what is shared counts as often as it is met; a slice's spare places count too). A statement '..UptoSaid' is the law's where the arguments, and the package variables that the reading takes, are together of bulk at most 1048576: NARROWER than '..Said'. Prove '..Said' where nothing that the law and all that it calls make is longer than what came in: it says more and counts as full. Else prove '..UptoSaid'. A law counts once. -/
mutual
def uptoBulk {H : Type} : DataW H → Nat
  | .lit (.string bytes) => bytes.length + 1
  | .lit _ => 1
  | .nil => 1
  | .ptr d => uptoBulk d + 1
  | .slice elems spare => uptoBulkAll elems + uptoBulkAll spare + 1
  | .agg parts => uptoBulkAll parts + 1
  | .iface _ d => uptoBulk d + 1
  | .map entries => uptoBulkEntries entries + 1
  | .held _ => 1
def uptoBulkAll {H : Type} : List (DataW H) → Nat
  | [] => 0
  | d :: r => uptoBulk d + uptoBulkAll r
def uptoBulkEntries {H : Type} : List (Lit × DataW H) → Nat
  | [] => 0
  | x :: r => uptoBulkEntry x + uptoBulkEntries r
def uptoBulkEntry {H : Type} : Lit × DataW H → Nat
  | (.string bytes, d) => bytes.length + uptoBulk d + 1
  | (_, d) => uptoBulk d + 1
 end
def uptoSmall : (H : Type) → List (DataW H) → Bool := fun _ ds => decide (uptoBulkAll ds ≤ 1048576)
def OpenSpec.upto (s : _root_.Go.ChangeSpec) : _root_.Go.OpenSpec := { _root_.Go.OpenSpec.ofChange s with cond := some uptoSmall }

/-- 'wringerlaw15.EzkeyKeys', WHERE WHAT IT READS IS OF BULK AT MOST 1048576: true; the input reads as it did. -/
def ezkeyKeysUptoRow : OpenClaim := { program := "ytiopgmnilchjkaadoor", sum := "0fcf382232b9e86b147b991b3c1073bf82b924c004ad1f703e8915b54205df48", func := "wringer/wringerlaw15.EzkeyKeys", spec := "ezkeyKeys", inPlace := ["math/bits.Add64"], unfollowed := true, recurses := true, named := ["wringer/turn.mixes", "wringer/turn.unmixes", "wringer/blake.first", "wringer/blake.rows"], apart := false, laid := [("wringer/blake.first", laid_wringer_blake_first), ("wringer/blake.rows", laid_wringer_blake_rows), ("wringer/turn.mixes", laid_wringer_turn_mixes), ("wringer/turn.unmixes", laid_wringer_turn_unmixes)], narrowed := true }
def EzkeyKeysUptoSaid : Prop := ezkeyKeysUptoRow.holds Tryd.pinned (OpenSpec.upto ezkeyKeysSpec)

/-- 'wringerlaw15.EzkeyBlocks', WHERE WHAT IT READS IS OF BULK AT MOST 1048576: true; the input reads as it did. -/
def ezkeyBlocksUptoRow : OpenClaim := { program := "ytiopgmnilchjkaadoor", sum := "0fcf382232b9e86b147b991b3c1073bf82b924c004ad1f703e8915b54205df48", func := "wringer/wringerlaw15.EzkeyBlocks", spec := "ezkeyBlocks", inPlace := ["math/bits.Add64"], unfollowed := true, recurses := true, named := ["wringer/turn.mixes", "wringer/turn.unmixes", "wringer/blake.first", "wringer/blake.rows"], apart := false, laid := [("wringer/blake.first", laid_wringer_blake_first), ("wringer/blake.rows", laid_wringer_blake_rows), ("wringer/turn.mixes", laid_wringer_turn_mixes), ("wringer/turn.unmixes", laid_wringer_turn_unmixes)], narrowed := true }
def EzkeyBlocksUptoSaid : Prop := ezkeyBlocksUptoRow.holds Tryd.pinned (OpenSpec.upto ezkeyBlocksSpec)

/-- 'wringerlaw15.EzkeyApart', WHERE WHAT IT READS IS OF BULK AT MOST 1048576: true; the input reads as it did. -/
def ezkeyApartUptoRow : OpenClaim := { program := "ytiopgmnilchjkaadoor", sum := "0fcf382232b9e86b147b991b3c1073bf82b924c004ad1f703e8915b54205df48", func := "wringer/wringerlaw15.EzkeyApart", spec := "ezkeyApart", inPlace := ["math/bits.Add64"], unfollowed := true, recurses := true, named := ["wringer/turn.mixes", "wringer/turn.unmixes", "wringer/blake.first", "wringer/blake.rows"], apart := false, laid := [("wringer/blake.first", laid_wringer_blake_first), ("wringer/blake.rows", laid_wringer_blake_rows), ("wringer/turn.mixes", laid_wringer_turn_mixes), ("wringer/turn.unmixes", laid_wringer_turn_unmixes)], narrowed := true }
def EzkeyApartUptoSaid : Prop := ezkeyApartUptoRow.holds Tryd.pinned (OpenSpec.upto ezkeyApartSpec)

/-- 'wringerlaw15.EzkeyShift', WHERE WHAT IT READS IS OF BULK AT MOST 1048576: true; the input reads as it did. -/
def ezkeyShiftUptoRow : OpenClaim := { program := "ytiopgmnilchjkaadoor", sum := "0fcf382232b9e86b147b991b3c1073bf82b924c004ad1f703e8915b54205df48", func := "wringer/wringerlaw15.EzkeyShift", spec := "ezkeyShift", inPlace := ["math/bits.Add64"], unfollowed := true, recurses := true, named := ["wringer/turn.mixes", "wringer/turn.unmixes", "wringer/blake.first", "wringer/blake.rows"], apart := false, laid := [("wringer/blake.first", laid_wringer_blake_first), ("wringer/blake.rows", laid_wringer_blake_rows), ("wringer/turn.mixes", laid_wringer_turn_mixes), ("wringer/turn.unmixes", laid_wringer_turn_unmixes)], narrowed := true }
def EzkeyShiftUptoSaid : Prop := ezkeyShiftUptoRow.holds Tryd.pinned (OpenSpec.upto ezkeyShiftSpec)

/-- 'wringerlaw15.EzkeyTen', WHERE WHAT IT READS IS OF BULK AT MOST 1048576: true; the input reads as it did. -/
def ezkeyTenUptoRow : OpenClaim := { program := "ytiopgmnilchjkaadoor", sum := "0fcf382232b9e86b147b991b3c1073bf82b924c004ad1f703e8915b54205df48", func := "wringer/wringerlaw15.EzkeyTen", spec := "ezkeyTen", inPlace := ["math/bits.Add64"], unfollowed := true, recurses := true, named := ["wringer/turn.mixes", "wringer/turn.unmixes", "wringer/blake.first", "wringer/blake.rows"], apart := false, laid := [("wringer/blake.first", laid_wringer_blake_first), ("wringer/blake.rows", laid_wringer_blake_rows), ("wringer/turn.mixes", laid_wringer_turn_mixes), ("wringer/turn.unmixes", laid_wringer_turn_unmixes)], narrowed := true }
def EzkeyTenUptoSaid : Prop := ezkeyTenUptoRow.holds Tryd.pinned (OpenSpec.upto ezkeyTenSpec)

/-- 'wringerlaw15.EzkeyOffsets', WHERE WHAT IT READS IS OF BULK AT MOST 1048576: true; the input reads as it did. -/
def ezkeyOffsetsUptoRow : OpenClaim := { program := "ytiopgmnilchjkaadoor", sum := "0fcf382232b9e86b147b991b3c1073bf82b924c004ad1f703e8915b54205df48", func := "wringer/wringerlaw15.EzkeyOffsets", spec := "ezkeyOffsets", inPlace := ["math/bits.Add64"], unfollowed := true, recurses := true, named := ["wringer/turn.mixes", "wringer/turn.unmixes", "wringer/blake.first", "wringer/blake.rows"], apart := false, laid := [("wringer/blake.first", laid_wringer_blake_first), ("wringer/blake.rows", laid_wringer_blake_rows), ("wringer/turn.mixes", laid_wringer_turn_mixes), ("wringer/turn.unmixes", laid_wringer_turn_unmixes)], narrowed := true }
def EzkeyOffsetsUptoSaid : Prop := ezkeyOffsetsUptoRow.holds Tryd.pinned (OpenSpec.upto ezkeyOffsetsSpec)

/-- 'wringerlaw15.EzkeyRow', WHERE WHAT IT READS IS OF BULK AT MOST 1048576: true; the input reads as it did. -/
def ezkeyRowUptoRow : OpenClaim := { program := "ytiopgmnilchjkaadoor", sum := "0fcf382232b9e86b147b991b3c1073bf82b924c004ad1f703e8915b54205df48", func := "wringer/wringerlaw15.EzkeyRow", spec := "ezkeyRow", inPlace := ["math/bits.Add64"], unfollowed := true, recurses := true, named := ["wringer/turn.mixes", "wringer/turn.unmixes", "wringer/blake.first", "wringer/blake.rows"], apart := false, laid := [("wringer/blake.first", laid_wringer_blake_first), ("wringer/blake.rows", laid_wringer_blake_rows), ("wringer/turn.mixes", laid_wringer_turn_mixes), ("wringer/turn.unmixes", laid_wringer_turn_unmixes)], narrowed := true }
def EzkeyRowUptoSaid : Prop := ezkeyRowUptoRow.holds Tryd.pinned (OpenSpec.upto ezkeyRowSpec)

/-- 'wringerlaw16.EzhashParts', WHERE WHAT IT READS IS OF BULK AT MOST 1048576: true; the input reads as it did. -/
def ezhashPartsUptoRow : OpenClaim := { program := "ytiopgmnilchjkaadoor", sum := "0fcf382232b9e86b147b991b3c1073bf82b924c004ad1f703e8915b54205df48", func := "wringer/wringerlaw16.EzhashParts", spec := "ezhashParts", inPlace := ["math/bits.Add64"], unfollowed := true, recurses := true, named := ["wringer/turn.mixes", "wringer/turn.unmixes", "wringer/blake.first", "wringer/blake.rows"], apart := false, laid := [("wringer/blake.first", laid_wringer_blake_first), ("wringer/blake.rows", laid_wringer_blake_rows), ("wringer/turn.mixes", laid_wringer_turn_mixes), ("wringer/turn.unmixes", laid_wringer_turn_unmixes)], narrowed := true }
def EzhashPartsUptoSaid : Prop := ezhashPartsUptoRow.holds Tryd.pinned (OpenSpec.upto ezhashPartsSpec)

/-- 'wringerlaw16.EzhashOne', WHERE WHAT IT READS IS OF BULK AT MOST 1048576: true; the input reads as it did. -/
def ezhashOneUptoRow : OpenClaim := { program := "ytiopgmnilchjkaadoor", sum := "0fcf382232b9e86b147b991b3c1073bf82b924c004ad1f703e8915b54205df48", func := "wringer/wringerlaw16.EzhashOne", spec := "ezhashOne", inPlace := ["math/bits.Add64"], unfollowed := true, recurses := true, named := ["wringer/turn.mixes", "wringer/turn.unmixes", "wringer/blake.first", "wringer/blake.rows"], apart := false, laid := [("wringer/blake.first", laid_wringer_blake_first), ("wringer/blake.rows", laid_wringer_blake_rows), ("wringer/turn.mixes", laid_wringer_turn_mixes), ("wringer/turn.unmixes", laid_wringer_turn_unmixes)], narrowed := true }
def EzhashOneUptoSaid : Prop := ezhashOneUptoRow.holds Tryd.pinned (OpenSpec.upto ezhashOneSpec)

/-- 'wringerlaw16.EzhashBlocks', WHERE WHAT IT READS IS OF BULK AT MOST 1048576: true; the input reads as it did. -/
def ezhashBlocksUptoRow : OpenClaim := { program := "ytiopgmnilchjkaadoor", sum := "0fcf382232b9e86b147b991b3c1073bf82b924c004ad1f703e8915b54205df48", func := "wringer/wringerlaw16.EzhashBlocks", spec := "ezhashBlocks", inPlace := ["math/bits.Add64"], unfollowed := true, recurses := true, named := ["wringer/turn.mixes", "wringer/turn.unmixes", "wringer/blake.first", "wringer/blake.rows"], apart := false, laid := [("wringer/blake.first", laid_wringer_blake_first), ("wringer/blake.rows", laid_wringer_blake_rows), ("wringer/turn.mixes", laid_wringer_turn_mixes), ("wringer/turn.unmixes", laid_wringer_turn_unmixes)], narrowed := true }
def EzhashBlocksUptoSaid : Prop := ezhashBlocksUptoRow.holds Tryd.pinned (OpenSpec.upto ezhashBlocksSpec)

/-- 'wringerlaw16.EzhashLast', WHERE WHAT IT READS IS OF BULK AT MOST 1048576: true; the input reads as it did. -/
def ezhashLastUptoRow : OpenClaim := { program := "ytiopgmnilchjkaadoor", sum := "0fcf382232b9e86b147b991b3c1073bf82b924c004ad1f703e8915b54205df48", func := "wringer/wringerlaw16.EzhashLast", spec := "ezhashLast", inPlace := ["math/bits.Add64"], unfollowed := true, recurses := true, named := ["wringer/turn.mixes", "wringer/turn.unmixes", "wringer/blake.first", "wringer/blake.rows"], apart := false, laid := [("wringer/blake.first", laid_wringer_blake_first), ("wringer/blake.rows", laid_wringer_blake_rows), ("wringer/turn.mixes", laid_wringer_turn_mixes), ("wringer/turn.unmixes", laid_wringer_turn_unmixes)], narrowed := true }
def EzhashLastUptoSaid : Prop := ezhashLastUptoRow.holds Tryd.pinned (OpenSpec.upto ezhashLastSpec)

/-- 'wringerlaw16.EzhashHashes', WHERE WHAT IT READS IS OF BULK AT MOST 1048576: true; the input reads as it did. -/
def ezhashHashesUptoRow : OpenClaim := { program := "ytiopgmnilchjkaadoor", sum := "0fcf382232b9e86b147b991b3c1073bf82b924c004ad1f703e8915b54205df48", func := "wringer/wringerlaw16.EzhashHashes", spec := "ezhashHashes", inPlace := ["math/bits.Add64"], unfollowed := true, recurses := true, named := ["wringer/turn.mixes", "wringer/turn.unmixes", "wringer/blake.first", "wringer/blake.rows"], apart := false, laid := [("wringer/blake.first", laid_wringer_blake_first), ("wringer/blake.rows", laid_wringer_blake_rows), ("wringer/turn.mixes", laid_wringer_turn_mixes), ("wringer/turn.unmixes", laid_wringer_turn_unmixes)], narrowed := true }
def EzhashHashesUptoSaid : Prop := ezhashHashesUptoRow.holds Tryd.pinned (OpenSpec.upto ezhashHashesSpec)

/-- 'wringerlaw16.EzhashRows', WHERE WHAT IT READS IS OF BULK AT MOST 1048576: true; the input reads as it did. -/
def ezhashRowsUptoRow : OpenClaim := { program := "ytiopgmnilchjkaadoor", sum := "0fcf382232b9e86b147b991b3c1073bf82b924c004ad1f703e8915b54205df48", func := "wringer/wringerlaw16.EzhashRows", spec := "ezhashRows", inPlace := ["math/bits.Add64"], unfollowed := true, recurses := true, named := ["wringer/turn.mixes", "wringer/turn.unmixes", "wringer/blake.first", "wringer/blake.rows"], apart := false, laid := [("wringer/blake.first", laid_wringer_blake_first), ("wringer/blake.rows", laid_wringer_blake_rows), ("wringer/turn.mixes", laid_wringer_turn_mixes), ("wringer/turn.unmixes", laid_wringer_turn_unmixes)], narrowed := true }
def EzhashRowsUptoSaid : Prop := ezhashRowsUptoRow.holds Tryd.pinned (OpenSpec.upto ezhashRowsSpec)

end Rows
end Go.Proofs.YtiopgmnilchjkaaDoor
