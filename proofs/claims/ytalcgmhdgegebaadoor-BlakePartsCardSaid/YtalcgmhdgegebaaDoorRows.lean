/-
  NARROWER THAN 'FOR EVERY INPUT', by the rows' own cells (each row's printed sentence says how): TurnKeys: laid · TurnLocal: laid · TurnRounds: laid · TurnMany: laid · TurnRow: laid · TurnApart: laid · BlakeCompresses: laid · BlakeSums: laid · BlakeParts: laid · BlakeKept: laid · BlakeChain: laid · TurnBacks: laid · TurnUndone: laid.
  DERIVED. THE GIVEN ROWS OF THIS SEAT. 13 by the template 'for every input the law returns true; each argument reads behind the call as it read before'; 0 by the template 'total and deterministic' (their statements: YtalcgmhdgegebaaDoorTotals.lean).
  GIVEN WITH THE SEED: the statements are not yours to turn. If you find one false, say at which input.
  Laid BY PROGRAM, IN A SANDBOX (cutbox-rows.mjs): the forced cells as the released guide's own fill.sh prints them over the translation bf2c67030d7dd5c1… (all of the seat's roots in one cut). By AI agents, Wed Nov 11 2026. No macro, syntax, notation, axiom, sorry.
-/
import Derived.Test.YtalcgmhdgegebaaDoorChecked
import GoSem.Claim
import GoSem.ClaimJoined
import GoSem.ClaimMapViews
import Derived.JoinedTies
import Derived.KernelRfl
namespace Go.Proofs.YtalcgmhdgegebaaDoor
/- THE CELL 'sum', in the pinned program and in every row, IS THE sha256 OF THE DUMP (.gsa) THAT YtalcgmhdgegebaaDoorProg.lean LOADS. Nothing in Lean hashes anything: it is a label: what it is worth is what the hold of that sum in a sandbox is worth. -/
noncomputable def Tryd.pinned : Pinned := { name := "ytalcgmhdgegebaadoor", sum := "bf2c67030d7dd5c18b17b32a819beaf2458c6a8f94c63fc33917e7cb5801cee8", checked := Tryd.checked }
namespace Rows
def none {H : Type} : Left H := { results := [], args := [] }

/- WHAT THE LISTED PACKAGE-LEVEL VARIABLES READ AS WHEN THE CALL BEGINS. Each datum BY PROGRAM (the guide's laid-datum.mjs) off the statement by which the dump's own 'gosem.cut.vars' lays the variable. In a bare row this is a premise. The card (YtalcgmhdgegebaaDoorCards.lean) ties it to the program's text. -/
def laid_wringer_turn_mixes {H : Type} : DataW H := .agg [.lit (.int .u8 2), .lit (.int .u8 3), .lit (.int .u8 1), .lit (.int .u8 1)]
def laid_wringer_turn_unmixes {H : Type} : DataW H := .agg [.lit (.int .u8 14), .lit (.int .u8 11), .lit (.int .u8 13), .lit (.int .u8 9)]
def laid_wringer_blake_first {H : Type} : DataW H := .agg [.lit (.int .u64 7640891576956012808), .lit (.int .u64 13503953896175478587), .lit (.int .u64 4354685564936845355), .lit (.int .u64 11912009170470909681), .lit (.int .u64 5840696475078001361), .lit (.int .u64 11170449401992604703), .lit (.int .u64 2270897969802886507), .lit (.int .u64 6620516959819538809)]
def laid_wringer_blake_rows {H : Type} : DataW H := .agg [.agg [.lit (.int .u8 0), .lit (.int .u8 1), .lit (.int .u8 2), .lit (.int .u8 3), .lit (.int .u8 4), .lit (.int .u8 5), .lit (.int .u8 6), .lit (.int .u8 7), .lit (.int .u8 8), .lit (.int .u8 9), .lit (.int .u8 10), .lit (.int .u8 11), .lit (.int .u8 12), .lit (.int .u8 13), .lit (.int .u8 14), .lit (.int .u8 15)], .agg [.lit (.int .u8 14), .lit (.int .u8 10), .lit (.int .u8 4), .lit (.int .u8 8), .lit (.int .u8 9), .lit (.int .u8 15), .lit (.int .u8 13), .lit (.int .u8 6), .lit (.int .u8 1), .lit (.int .u8 12), .lit (.int .u8 0), .lit (.int .u8 2), .lit (.int .u8 11), .lit (.int .u8 7), .lit (.int .u8 5), .lit (.int .u8 3)], .agg [.lit (.int .u8 11), .lit (.int .u8 8), .lit (.int .u8 12), .lit (.int .u8 0), .lit (.int .u8 5), .lit (.int .u8 2), .lit (.int .u8 15), .lit (.int .u8 13), .lit (.int .u8 10), .lit (.int .u8 14), .lit (.int .u8 3), .lit (.int .u8 6), .lit (.int .u8 7), .lit (.int .u8 1), .lit (.int .u8 9), .lit (.int .u8 4)], .agg [.lit (.int .u8 7), .lit (.int .u8 9), .lit (.int .u8 3), .lit (.int .u8 1), .lit (.int .u8 13), .lit (.int .u8 12), .lit (.int .u8 11), .lit (.int .u8 14), .lit (.int .u8 2), .lit (.int .u8 6), .lit (.int .u8 5), .lit (.int .u8 10), .lit (.int .u8 4), .lit (.int .u8 0), .lit (.int .u8 15), .lit (.int .u8 8)], .agg [.lit (.int .u8 9), .lit (.int .u8 0), .lit (.int .u8 5), .lit (.int .u8 7), .lit (.int .u8 2), .lit (.int .u8 4), .lit (.int .u8 10), .lit (.int .u8 15), .lit (.int .u8 14), .lit (.int .u8 1), .lit (.int .u8 11), .lit (.int .u8 12), .lit (.int .u8 6), .lit (.int .u8 8), .lit (.int .u8 3), .lit (.int .u8 13)], .agg [.lit (.int .u8 2), .lit (.int .u8 12), .lit (.int .u8 6), .lit (.int .u8 10), .lit (.int .u8 0), .lit (.int .u8 11), .lit (.int .u8 8), .lit (.int .u8 3), .lit (.int .u8 4), .lit (.int .u8 13), .lit (.int .u8 7), .lit (.int .u8 5), .lit (.int .u8 15), .lit (.int .u8 14), .lit (.int .u8 1), .lit (.int .u8 9)], .agg [.lit (.int .u8 12), .lit (.int .u8 5), .lit (.int .u8 1), .lit (.int .u8 15), .lit (.int .u8 14), .lit (.int .u8 13), .lit (.int .u8 4), .lit (.int .u8 10), .lit (.int .u8 0), .lit (.int .u8 7), .lit (.int .u8 6), .lit (.int .u8 3), .lit (.int .u8 9), .lit (.int .u8 2), .lit (.int .u8 8), .lit (.int .u8 11)], .agg [.lit (.int .u8 13), .lit (.int .u8 11), .lit (.int .u8 7), .lit (.int .u8 14), .lit (.int .u8 12), .lit (.int .u8 1), .lit (.int .u8 3), .lit (.int .u8 9), .lit (.int .u8 5), .lit (.int .u8 0), .lit (.int .u8 15), .lit (.int .u8 4), .lit (.int .u8 8), .lit (.int .u8 6), .lit (.int .u8 2), .lit (.int .u8 10)], .agg [.lit (.int .u8 6), .lit (.int .u8 15), .lit (.int .u8 14), .lit (.int .u8 9), .lit (.int .u8 11), .lit (.int .u8 3), .lit (.int .u8 0), .lit (.int .u8 8), .lit (.int .u8 12), .lit (.int .u8 2), .lit (.int .u8 13), .lit (.int .u8 7), .lit (.int .u8 1), .lit (.int .u8 4), .lit (.int .u8 10), .lit (.int .u8 5)], .agg [.lit (.int .u8 10), .lit (.int .u8 2), .lit (.int .u8 8), .lit (.int .u8 4), .lit (.int .u8 7), .lit (.int .u8 6), .lit (.int .u8 1), .lit (.int .u8 5), .lit (.int .u8 15), .lit (.int .u8 11), .lit (.int .u8 9), .lit (.int .u8 14), .lit (.int .u8 3), .lit (.int .u8 12), .lit (.int .u8 13), .lit (.int .u8 0)]]

/-- 'wringerlaw03.TurnKeys': WHATEVER THE INPUT: true; the input reads as it did. -/
def turnKeysSpec : ChangeSpec := { name := "turnKeys", fn := fun _ => fun
  | [d1, d2, d3] => { results := [.lit (.bool true)], args := [d1, d2, d3] }
  | _ => none }
def turnKeysRow : OpenClaim := { program := "ytalcgmhdgegebaadoor", sum := "bf2c67030d7dd5c18b17b32a819beaf2458c6a8f94c63fc33917e7cb5801cee8", func := "wringer/wringerlaw03.TurnKeys", spec := "turnKeys", unfollowed := true, recurses := true, named := ["wringer/turn.mixes", "wringer/turn.unmixes"], apart := false, laid := [("wringer/turn.mixes", laid_wringer_turn_mixes), ("wringer/turn.unmixes", laid_wringer_turn_unmixes)] }
def TurnKeysSaid : Prop := turnKeysRow.holds Tryd.pinned (OpenSpec.ofChange turnKeysSpec)

/-- ITS FALSE NEIGHBOUR: 'it returns false'. Refute it at one input. -/
def turnKeysWrong : ChangeSpec := { name := "turnKeys", fn := fun _ => fun
  | [d1, d2, d3] => { results := [.lit (.bool false)], args := [d1, d2, d3] }
  | _ => none }
def TurnKeysWrongFalsely : Prop := turnKeysRow.holds Tryd.pinned (OpenSpec.ofChange turnKeysWrong)

/-- 'wringerlaw03.TurnLocal': WHATEVER THE INPUT: true; the input reads as it did. -/
def turnLocalSpec : ChangeSpec := { name := "turnLocal", fn := fun _ => fun
  | [d] => { results := [.lit (.bool true)], args := [d] }
  | _ => none }
def turnLocalRow : OpenClaim := { program := "ytalcgmhdgegebaadoor", sum := "bf2c67030d7dd5c18b17b32a819beaf2458c6a8f94c63fc33917e7cb5801cee8", func := "wringer/wringerlaw03.TurnLocal", spec := "turnLocal", unfollowed := true, recurses := true, named := ["wringer/turn.mixes", "wringer/turn.unmixes"], apart := false, laid := [("wringer/turn.mixes", laid_wringer_turn_mixes), ("wringer/turn.unmixes", laid_wringer_turn_unmixes)] }
def TurnLocalSaid : Prop := turnLocalRow.holds Tryd.pinned (OpenSpec.ofChange turnLocalSpec)

/-- ITS FALSE NEIGHBOUR: 'it returns false'. Refute it at one input. -/
def turnLocalWrong : ChangeSpec := { name := "turnLocal", fn := fun _ => fun
  | [d] => { results := [.lit (.bool false)], args := [d] }
  | _ => none }
def TurnLocalWrongFalsely : Prop := turnLocalRow.holds Tryd.pinned (OpenSpec.ofChange turnLocalWrong)

/-- 'wringerlaw03.TurnRounds': WHATEVER THE INPUT: true; the input reads as it did. -/
def turnRoundsSpec : ChangeSpec := { name := "turnRounds", fn := fun _ => fun
  | [d1, d2] => { results := [.lit (.bool true)], args := [d1, d2] }
  | _ => none }
def turnRoundsRow : OpenClaim := { program := "ytalcgmhdgegebaadoor", sum := "bf2c67030d7dd5c18b17b32a819beaf2458c6a8f94c63fc33917e7cb5801cee8", func := "wringer/wringerlaw03.TurnRounds", spec := "turnRounds", unfollowed := true, recurses := true, named := ["wringer/turn.mixes", "wringer/turn.unmixes"], apart := false, laid := [("wringer/turn.mixes", laid_wringer_turn_mixes), ("wringer/turn.unmixes", laid_wringer_turn_unmixes)] }
def TurnRoundsSaid : Prop := turnRoundsRow.holds Tryd.pinned (OpenSpec.ofChange turnRoundsSpec)

/-- ITS FALSE NEIGHBOUR: 'it returns false'. Refute it at one input. -/
def turnRoundsWrong : ChangeSpec := { name := "turnRounds", fn := fun _ => fun
  | [d1, d2] => { results := [.lit (.bool false)], args := [d1, d2] }
  | _ => none }
def TurnRoundsWrongFalsely : Prop := turnRoundsRow.holds Tryd.pinned (OpenSpec.ofChange turnRoundsWrong)

/-- 'wringerlaw03.TurnMany': WHATEVER THE INPUT: true; the input reads as it did. -/
def turnManySpec : ChangeSpec := { name := "turnMany", fn := fun _ => fun
  | [d1, d2] => { results := [.lit (.bool true)], args := [d1, d2] }
  | _ => none }
def turnManyRow : OpenClaim := { program := "ytalcgmhdgegebaadoor", sum := "bf2c67030d7dd5c18b17b32a819beaf2458c6a8f94c63fc33917e7cb5801cee8", func := "wringer/wringerlaw03.TurnMany", spec := "turnMany", unfollowed := true, recurses := true, named := ["wringer/turn.mixes", "wringer/turn.unmixes"], apart := false, laid := [("wringer/turn.mixes", laid_wringer_turn_mixes), ("wringer/turn.unmixes", laid_wringer_turn_unmixes)] }
def TurnManySaid : Prop := turnManyRow.holds Tryd.pinned (OpenSpec.ofChange turnManySpec)

/-- ITS FALSE NEIGHBOUR: 'it returns false'. Refute it at one input. -/
def turnManyWrong : ChangeSpec := { name := "turnMany", fn := fun _ => fun
  | [d1, d2] => { results := [.lit (.bool false)], args := [d1, d2] }
  | _ => none }
def TurnManyWrongFalsely : Prop := turnManyRow.holds Tryd.pinned (OpenSpec.ofChange turnManyWrong)

/-- 'wringerlaw03.TurnRow': WHATEVER THE INPUT: true; the input reads as it did. -/
def turnRowSpec : ChangeSpec := { name := "turnRow", fn := fun _ => fun
  | [d1, d2, d3] => { results := [.lit (.bool true)], args := [d1, d2, d3] }
  | _ => none }
def turnRowRow : OpenClaim := { program := "ytalcgmhdgegebaadoor", sum := "bf2c67030d7dd5c18b17b32a819beaf2458c6a8f94c63fc33917e7cb5801cee8", func := "wringer/wringerlaw03.TurnRow", spec := "turnRow", unfollowed := true, recurses := true, named := ["wringer/turn.mixes", "wringer/turn.unmixes"], apart := false, laid := [("wringer/turn.mixes", laid_wringer_turn_mixes), ("wringer/turn.unmixes", laid_wringer_turn_unmixes)] }
def TurnRowSaid : Prop := turnRowRow.holds Tryd.pinned (OpenSpec.ofChange turnRowSpec)

/-- ITS FALSE NEIGHBOUR: 'it returns false'. Refute it at one input. -/
def turnRowWrong : ChangeSpec := { name := "turnRow", fn := fun _ => fun
  | [d1, d2, d3] => { results := [.lit (.bool false)], args := [d1, d2, d3] }
  | _ => none }
def TurnRowWrongFalsely : Prop := turnRowRow.holds Tryd.pinned (OpenSpec.ofChange turnRowWrong)

/-- 'wringerlaw03.TurnApart': WHATEVER THE INPUT: true; the input reads as it did. -/
def turnApartSpec : ChangeSpec := { name := "turnApart", fn := fun _ => fun
  | [d1, d2, d3] => { results := [.lit (.bool true)], args := [d1, d2, d3] }
  | _ => none }
def turnApartRow : OpenClaim := { program := "ytalcgmhdgegebaadoor", sum := "bf2c67030d7dd5c18b17b32a819beaf2458c6a8f94c63fc33917e7cb5801cee8", func := "wringer/wringerlaw03.TurnApart", spec := "turnApart", unfollowed := true, recurses := true, named := ["wringer/turn.mixes", "wringer/turn.unmixes"], apart := false, laid := [("wringer/turn.mixes", laid_wringer_turn_mixes), ("wringer/turn.unmixes", laid_wringer_turn_unmixes)] }
def TurnApartSaid : Prop := turnApartRow.holds Tryd.pinned (OpenSpec.ofChange turnApartSpec)

/-- ITS FALSE NEIGHBOUR: 'it returns false'. Refute it at one input. -/
def turnApartWrong : ChangeSpec := { name := "turnApart", fn := fun _ => fun
  | [d1, d2, d3] => { results := [.lit (.bool false)], args := [d1, d2, d3] }
  | _ => none }
def TurnApartWrongFalsely : Prop := turnApartRow.holds Tryd.pinned (OpenSpec.ofChange turnApartWrong)

/-- 'wringerlaw06.BlakeCompresses': WHATEVER THE INPUT: true; the input reads as it did. -/
def blakeCompressesSpec : ChangeSpec := { name := "blakeCompresses", fn := fun _ => fun
  | [d] => { results := [.lit (.bool true)], args := [d] }
  | _ => none }
def blakeCompressesRow : OpenClaim := { program := "ytalcgmhdgegebaadoor", sum := "bf2c67030d7dd5c18b17b32a819beaf2458c6a8f94c63fc33917e7cb5801cee8", func := "wringer/wringerlaw06.BlakeCompresses", spec := "blakeCompresses", inPlace := ["math/bits.Add64"], unfollowed := true, recurses := true, named := ["wringer/blake.first", "wringer/blake.rows"], apart := false, laid := [("wringer/blake.first", laid_wringer_blake_first), ("wringer/blake.rows", laid_wringer_blake_rows)] }
def BlakeCompressesSaid : Prop := blakeCompressesRow.holds Tryd.pinned (OpenSpec.ofChange blakeCompressesSpec)

/-- ITS FALSE NEIGHBOUR: 'it returns false'. Refute it at one input. -/
def blakeCompressesWrong : ChangeSpec := { name := "blakeCompresses", fn := fun _ => fun
  | [d] => { results := [.lit (.bool false)], args := [d] }
  | _ => none }
def BlakeCompressesWrongFalsely : Prop := blakeCompressesRow.holds Tryd.pinned (OpenSpec.ofChange blakeCompressesWrong)

/-- 'wringerlaw06.BlakeSums': WHATEVER THE INPUT: true; the input reads as it did. -/
def blakeSumsSpec : ChangeSpec := { name := "blakeSums", fn := fun _ => fun
  | [d1, d2, d3] => { results := [.lit (.bool true)], args := [d1, d2, d3] }
  | _ => none }
def blakeSumsRow : OpenClaim := { program := "ytalcgmhdgegebaadoor", sum := "bf2c67030d7dd5c18b17b32a819beaf2458c6a8f94c63fc33917e7cb5801cee8", func := "wringer/wringerlaw06.BlakeSums", spec := "blakeSums", inPlace := ["math/bits.Add64"], unfollowed := true, recurses := true, named := ["wringer/blake.first", "wringer/blake.rows"], apart := false, laid := [("wringer/blake.first", laid_wringer_blake_first), ("wringer/blake.rows", laid_wringer_blake_rows)] }
def BlakeSumsSaid : Prop := blakeSumsRow.holds Tryd.pinned (OpenSpec.ofChange blakeSumsSpec)

/-- ITS FALSE NEIGHBOUR: 'it returns false'. Refute it at one input. -/
def blakeSumsWrong : ChangeSpec := { name := "blakeSums", fn := fun _ => fun
  | [d1, d2, d3] => { results := [.lit (.bool false)], args := [d1, d2, d3] }
  | _ => none }
def BlakeSumsWrongFalsely : Prop := blakeSumsRow.holds Tryd.pinned (OpenSpec.ofChange blakeSumsWrong)

/-- 'wringerlaw06.BlakeParts': WHATEVER THE INPUT: true; the input reads as it did. -/
def blakePartsSpec : ChangeSpec := { name := "blakeParts", fn := fun _ => fun
  | [d] => { results := [.lit (.bool true)], args := [d] }
  | _ => none }
def blakePartsRow : OpenClaim := { program := "ytalcgmhdgegebaadoor", sum := "bf2c67030d7dd5c18b17b32a819beaf2458c6a8f94c63fc33917e7cb5801cee8", func := "wringer/wringerlaw06.BlakeParts", spec := "blakeParts", inPlace := ["math/bits.Add64"], unfollowed := true, recurses := true, named := ["wringer/blake.first", "wringer/blake.rows"], apart := false, laid := [("wringer/blake.first", laid_wringer_blake_first), ("wringer/blake.rows", laid_wringer_blake_rows)] }
def BlakePartsSaid : Prop := blakePartsRow.holds Tryd.pinned (OpenSpec.ofChange blakePartsSpec)

/-- ITS FALSE NEIGHBOUR: 'it returns false'. Refute it at one input. -/
def blakePartsWrong : ChangeSpec := { name := "blakeParts", fn := fun _ => fun
  | [d] => { results := [.lit (.bool false)], args := [d] }
  | _ => none }
def BlakePartsWrongFalsely : Prop := blakePartsRow.holds Tryd.pinned (OpenSpec.ofChange blakePartsWrong)

/-- 'wringerlaw06.BlakeKept': WHATEVER THE INPUT: true; the input reads as it did. -/
def blakeKeptSpec : ChangeSpec := { name := "blakeKept", fn := fun _ => fun
  | [d] => { results := [.lit (.bool true)], args := [d] }
  | _ => none }
def blakeKeptRow : OpenClaim := { program := "ytalcgmhdgegebaadoor", sum := "bf2c67030d7dd5c18b17b32a819beaf2458c6a8f94c63fc33917e7cb5801cee8", func := "wringer/wringerlaw06.BlakeKept", spec := "blakeKept", inPlace := ["math/bits.Add64"], unfollowed := true, recurses := true, named := ["wringer/blake.first", "wringer/blake.rows"], apart := false, laid := [("wringer/blake.first", laid_wringer_blake_first), ("wringer/blake.rows", laid_wringer_blake_rows)] }
def BlakeKeptSaid : Prop := blakeKeptRow.holds Tryd.pinned (OpenSpec.ofChange blakeKeptSpec)

/-- ITS FALSE NEIGHBOUR: 'it returns false'. Refute it at one input. -/
def blakeKeptWrong : ChangeSpec := { name := "blakeKept", fn := fun _ => fun
  | [d] => { results := [.lit (.bool false)], args := [d] }
  | _ => none }
def BlakeKeptWrongFalsely : Prop := blakeKeptRow.holds Tryd.pinned (OpenSpec.ofChange blakeKeptWrong)

/-- 'wringerlaw06.BlakeChain': WHATEVER THE INPUT: true; the input reads as it did. -/
def blakeChainSpec : ChangeSpec := { name := "blakeChain", fn := fun _ => fun
  | [d1, d2, d3] => { results := [.lit (.bool true)], args := [d1, d2, d3] }
  | _ => none }
def blakeChainRow : OpenClaim := { program := "ytalcgmhdgegebaadoor", sum := "bf2c67030d7dd5c18b17b32a819beaf2458c6a8f94c63fc33917e7cb5801cee8", func := "wringer/wringerlaw06.BlakeChain", spec := "blakeChain", inPlace := ["math/bits.Add64"], unfollowed := true, recurses := true, named := ["wringer/blake.first", "wringer/blake.rows"], apart := false, laid := [("wringer/blake.first", laid_wringer_blake_first), ("wringer/blake.rows", laid_wringer_blake_rows)] }
def BlakeChainSaid : Prop := blakeChainRow.holds Tryd.pinned (OpenSpec.ofChange blakeChainSpec)

/-- ITS FALSE NEIGHBOUR: 'it returns false'. Refute it at one input. -/
def blakeChainWrong : ChangeSpec := { name := "blakeChain", fn := fun _ => fun
  | [d1, d2, d3] => { results := [.lit (.bool false)], args := [d1, d2, d3] }
  | _ => none }
def BlakeChainWrongFalsely : Prop := blakeChainRow.holds Tryd.pinned (OpenSpec.ofChange blakeChainWrong)

/-- 'wringerlaw03.TurnBacks': WHATEVER THE INPUT: true; the input reads as it did. -/
def turnBacksSpec : ChangeSpec := { name := "turnBacks", fn := fun _ => fun
  | [d1, d2] => { results := [.lit (.bool true)], args := [d1, d2] }
  | _ => none }
def turnBacksRow : OpenClaim := { program := "ytalcgmhdgegebaadoor", sum := "bf2c67030d7dd5c18b17b32a819beaf2458c6a8f94c63fc33917e7cb5801cee8", func := "wringer/wringerlaw03.TurnBacks", spec := "turnBacks", unfollowed := true, recurses := true, named := ["wringer/turn.mixes", "wringer/turn.unmixes"], apart := false, laid := [("wringer/turn.mixes", laid_wringer_turn_mixes), ("wringer/turn.unmixes", laid_wringer_turn_unmixes)] }
def TurnBacksSaid : Prop := turnBacksRow.holds Tryd.pinned (OpenSpec.ofChange turnBacksSpec)

/-- ITS FALSE NEIGHBOUR: 'it returns false'. Refute it at one input. -/
def turnBacksWrong : ChangeSpec := { name := "turnBacks", fn := fun _ => fun
  | [d1, d2] => { results := [.lit (.bool false)], args := [d1, d2] }
  | _ => none }
def TurnBacksWrongFalsely : Prop := turnBacksRow.holds Tryd.pinned (OpenSpec.ofChange turnBacksWrong)

/-- 'wringerlaw03.TurnUndone': WHATEVER THE INPUT: true; the input reads as it did. -/
def turnUndoneSpec : ChangeSpec := { name := "turnUndone", fn := fun _ => fun
  | [d1, d2] => { results := [.lit (.bool true)], args := [d1, d2] }
  | _ => none }
def turnUndoneRow : OpenClaim := { program := "ytalcgmhdgegebaadoor", sum := "bf2c67030d7dd5c18b17b32a819beaf2458c6a8f94c63fc33917e7cb5801cee8", func := "wringer/wringerlaw03.TurnUndone", spec := "turnUndone", unfollowed := true, recurses := true, named := ["wringer/turn.mixes", "wringer/turn.unmixes"], apart := false, laid := [("wringer/turn.mixes", laid_wringer_turn_mixes), ("wringer/turn.unmixes", laid_wringer_turn_unmixes)] }
def TurnUndoneSaid : Prop := turnUndoneRow.holds Tryd.pinned (OpenSpec.ofChange turnUndoneSpec)

/-- ITS FALSE NEIGHBOUR: 'it returns false'. Refute it at one input. -/
def turnUndoneWrong : ChangeSpec := { name := "turnUndone", fn := fun _ => fun
  | [d1, d2] => { results := [.lit (.bool false)], args := [d1, d2] }
  | _ => none }
def TurnUndoneWrongFalsely : Prop := turnUndoneRow.holds Tryd.pinned (OpenSpec.ofChange turnUndoneWrong)

/- THE SECOND FORM. 'bulk': how many values and letters a reading holds, each counted each time it is reached (what is shared counts as often as it is met; a slice's spare places count too). A statement '..UptoSaid' is the law's where the arguments, and the package variables that the reading takes, are together of bulk at most 1048576: NARROWER than '..Said'. Prove '..Said' where nothing that the law and all that it calls make is longer than what came in: it says more and counts as full. Else prove '..UptoSaid'. A law counts once. -/
mutual
def uptoBulk {H : Type} : DataW H → Nat
  | .lit (.string bytes) => bytes.length + 1
  | .lit _ => 1
  | .nil => 1
  | .ptr d => uptoBulk d + 1
  | .slice elems spare => uptoBulkAll elems + uptoBulkAll spare + 1
  | .agg parts => uptoBulkAll parts + 1
  | .iface _ d => uptoBulk d + 1
  | .map entries => uptoBulkEntries entries + 1
  | .held _ => 1
def uptoBulkAll {H : Type} : List (DataW H) → Nat
  | [] => 0
  | d :: r => uptoBulk d + uptoBulkAll r
def uptoBulkEntries {H : Type} : List (Lit × DataW H) → Nat
  | [] => 0
  | x :: r => uptoBulkEntry x + uptoBulkEntries r
def uptoBulkEntry {H : Type} : Lit × DataW H → Nat
  | (.string bytes, d) => bytes.length + uptoBulk d + 1
  | (_, d) => uptoBulk d + 1
 end
def uptoSmall : (H : Type) → List (DataW H) → Bool := fun _ ds => decide (uptoBulkAll ds ≤ 1048576)
def OpenSpec.upto (s : _root_.Go.ChangeSpec) : _root_.Go.OpenSpec := { _root_.Go.OpenSpec.ofChange s with cond := some uptoSmall }

/-- 'wringerlaw03.TurnKeys', WHERE WHAT IT READS IS OF BULK AT MOST 1048576: true; the input reads as it did. -/
def turnKeysUptoRow : OpenClaim := { program := "ytalcgmhdgegebaadoor", sum := "bf2c67030d7dd5c18b17b32a819beaf2458c6a8f94c63fc33917e7cb5801cee8", func := "wringer/wringerlaw03.TurnKeys", spec := "turnKeys", unfollowed := true, recurses := true, named := ["wringer/turn.mixes", "wringer/turn.unmixes"], apart := false, laid := [("wringer/turn.mixes", laid_wringer_turn_mixes), ("wringer/turn.unmixes", laid_wringer_turn_unmixes)], narrowed := true }
def TurnKeysUptoSaid : Prop := turnKeysUptoRow.holds Tryd.pinned (OpenSpec.upto turnKeysSpec)

/-- 'wringerlaw03.TurnLocal', WHERE WHAT IT READS IS OF BULK AT MOST 1048576: true; the input reads as it did. -/
def turnLocalUptoRow : OpenClaim := { program := "ytalcgmhdgegebaadoor", sum := "bf2c67030d7dd5c18b17b32a819beaf2458c6a8f94c63fc33917e7cb5801cee8", func := "wringer/wringerlaw03.TurnLocal", spec := "turnLocal", unfollowed := true, recurses := true, named := ["wringer/turn.mixes", "wringer/turn.unmixes"], apart := false, laid := [("wringer/turn.mixes", laid_wringer_turn_mixes), ("wringer/turn.unmixes", laid_wringer_turn_unmixes)], narrowed := true }
def TurnLocalUptoSaid : Prop := turnLocalUptoRow.holds Tryd.pinned (OpenSpec.upto turnLocalSpec)

/-- 'wringerlaw03.TurnRounds', WHERE WHAT IT READS IS OF BULK AT MOST 1048576: true; the input reads as it did. -/
def turnRoundsUptoRow : OpenClaim := { program := "ytalcgmhdgegebaadoor", sum := "bf2c67030d7dd5c18b17b32a819beaf2458c6a8f94c63fc33917e7cb5801cee8", func := "wringer/wringerlaw03.TurnRounds", spec := "turnRounds", unfollowed := true, recurses := true, named := ["wringer/turn.mixes", "wringer/turn.unmixes"], apart := false, laid := [("wringer/turn.mixes", laid_wringer_turn_mixes), ("wringer/turn.unmixes", laid_wringer_turn_unmixes)], narrowed := true }
def TurnRoundsUptoSaid : Prop := turnRoundsUptoRow.holds Tryd.pinned (OpenSpec.upto turnRoundsSpec)

/-- 'wringerlaw03.TurnMany', WHERE WHAT IT READS IS OF BULK AT MOST 1048576: true; the input reads as it did. -/
def turnManyUptoRow : OpenClaim := { program := "ytalcgmhdgegebaadoor", sum := "bf2c67030d7dd5c18b17b32a819beaf2458c6a8f94c63fc33917e7cb5801cee8", func := "wringer/wringerlaw03.TurnMany", spec := "turnMany", unfollowed := true, recurses := true, named := ["wringer/turn.mixes", "wringer/turn.unmixes"], apart := false, laid := [("wringer/turn.mixes", laid_wringer_turn_mixes), ("wringer/turn.unmixes", laid_wringer_turn_unmixes)], narrowed := true }
def TurnManyUptoSaid : Prop := turnManyUptoRow.holds Tryd.pinned (OpenSpec.upto turnManySpec)

/-- 'wringerlaw03.TurnRow', WHERE WHAT IT READS IS OF BULK AT MOST 1048576: true; the input reads as it did. -/
def turnRowUptoRow : OpenClaim := { program := "ytalcgmhdgegebaadoor", sum := "bf2c67030d7dd5c18b17b32a819beaf2458c6a8f94c63fc33917e7cb5801cee8", func := "wringer/wringerlaw03.TurnRow", spec := "turnRow", unfollowed := true, recurses := true, named := ["wringer/turn.mixes", "wringer/turn.unmixes"], apart := false, laid := [("wringer/turn.mixes", laid_wringer_turn_mixes), ("wringer/turn.unmixes", laid_wringer_turn_unmixes)], narrowed := true }
def TurnRowUptoSaid : Prop := turnRowUptoRow.holds Tryd.pinned (OpenSpec.upto turnRowSpec)

/-- 'wringerlaw03.TurnApart', WHERE WHAT IT READS IS OF BULK AT MOST 1048576: true; the input reads as it did. -/
def turnApartUptoRow : OpenClaim := { program := "ytalcgmhdgegebaadoor", sum := "bf2c67030d7dd5c18b17b32a819beaf2458c6a8f94c63fc33917e7cb5801cee8", func := "wringer/wringerlaw03.TurnApart", spec := "turnApart", unfollowed := true, recurses := true, named := ["wringer/turn.mixes", "wringer/turn.unmixes"], apart := false, laid := [("wringer/turn.mixes", laid_wringer_turn_mixes), ("wringer/turn.unmixes", laid_wringer_turn_unmixes)], narrowed := true }
def TurnApartUptoSaid : Prop := turnApartUptoRow.holds Tryd.pinned (OpenSpec.upto turnApartSpec)

/-- 'wringerlaw06.BlakeCompresses', WHERE WHAT IT READS IS OF BULK AT MOST 1048576: true; the input reads as it did. -/
def blakeCompressesUptoRow : OpenClaim := { program := "ytalcgmhdgegebaadoor", sum := "bf2c67030d7dd5c18b17b32a819beaf2458c6a8f94c63fc33917e7cb5801cee8", func := "wringer/wringerlaw06.BlakeCompresses", spec := "blakeCompresses", inPlace := ["math/bits.Add64"], unfollowed := true, recurses := true, named := ["wringer/blake.first", "wringer/blake.rows"], apart := false, laid := [("wringer/blake.first", laid_wringer_blake_first), ("wringer/blake.rows", laid_wringer_blake_rows)], narrowed := true }
def BlakeCompressesUptoSaid : Prop := blakeCompressesUptoRow.holds Tryd.pinned (OpenSpec.upto blakeCompressesSpec)

/-- 'wringerlaw06.BlakeSums', WHERE WHAT IT READS IS OF BULK AT MOST 1048576: true; the input reads as it did. -/
def blakeSumsUptoRow : OpenClaim := { program := "ytalcgmhdgegebaadoor", sum := "bf2c67030d7dd5c18b17b32a819beaf2458c6a8f94c63fc33917e7cb5801cee8", func := "wringer/wringerlaw06.BlakeSums", spec := "blakeSums", inPlace := ["math/bits.Add64"], unfollowed := true, recurses := true, named := ["wringer/blake.first", "wringer/blake.rows"], apart := false, laid := [("wringer/blake.first", laid_wringer_blake_first), ("wringer/blake.rows", laid_wringer_blake_rows)], narrowed := true }
def BlakeSumsUptoSaid : Prop := blakeSumsUptoRow.holds Tryd.pinned (OpenSpec.upto blakeSumsSpec)

/-- 'wringerlaw06.BlakeParts', WHERE WHAT IT READS IS OF BULK AT MOST 1048576: true; the input reads as it did. -/
def blakePartsUptoRow : OpenClaim := { program := "ytalcgmhdgegebaadoor", sum := "bf2c67030d7dd5c18b17b32a819beaf2458c6a8f94c63fc33917e7cb5801cee8", func := "wringer/wringerlaw06.BlakeParts", spec := "blakeParts", inPlace := ["math/bits.Add64"], unfollowed := true, recurses := true, named := ["wringer/blake.first", "wringer/blake.rows"], apart := false, laid := [("wringer/blake.first", laid_wringer_blake_first), ("wringer/blake.rows", laid_wringer_blake_rows)], narrowed := true }
def BlakePartsUptoSaid : Prop := blakePartsUptoRow.holds Tryd.pinned (OpenSpec.upto blakePartsSpec)

/-- 'wringerlaw06.BlakeKept', WHERE WHAT IT READS IS OF BULK AT MOST 1048576: true; the input reads as it did. -/
def blakeKeptUptoRow : OpenClaim := { program := "ytalcgmhdgegebaadoor", sum := "bf2c67030d7dd5c18b17b32a819beaf2458c6a8f94c63fc33917e7cb5801cee8", func := "wringer/wringerlaw06.BlakeKept", spec := "blakeKept", inPlace := ["math/bits.Add64"], unfollowed := true, recurses := true, named := ["wringer/blake.first", "wringer/blake.rows"], apart := false, laid := [("wringer/blake.first", laid_wringer_blake_first), ("wringer/blake.rows", laid_wringer_blake_rows)], narrowed := true }
def BlakeKeptUptoSaid : Prop := blakeKeptUptoRow.holds Tryd.pinned (OpenSpec.upto blakeKeptSpec)

/-- 'wringerlaw06.BlakeChain', WHERE WHAT IT READS IS OF BULK AT MOST 1048576: true; the input reads as it did. -/
def blakeChainUptoRow : OpenClaim := { program := "ytalcgmhdgegebaadoor", sum := "bf2c67030d7dd5c18b17b32a819beaf2458c6a8f94c63fc33917e7cb5801cee8", func := "wringer/wringerlaw06.BlakeChain", spec := "blakeChain", inPlace := ["math/bits.Add64"], unfollowed := true, recurses := true, named := ["wringer/blake.first", "wringer/blake.rows"], apart := false, laid := [("wringer/blake.first", laid_wringer_blake_first), ("wringer/blake.rows", laid_wringer_blake_rows)], narrowed := true }
def BlakeChainUptoSaid : Prop := blakeChainUptoRow.holds Tryd.pinned (OpenSpec.upto blakeChainSpec)

/-- 'wringerlaw03.TurnBacks', WHERE WHAT IT READS IS OF BULK AT MOST 1048576: true; the input reads as it did. -/
def turnBacksUptoRow : OpenClaim := { program := "ytalcgmhdgegebaadoor", sum := "bf2c67030d7dd5c18b17b32a819beaf2458c6a8f94c63fc33917e7cb5801cee8", func := "wringer/wringerlaw03.TurnBacks", spec := "turnBacks", unfollowed := true, recurses := true, named := ["wringer/turn.mixes", "wringer/turn.unmixes"], apart := false, laid := [("wringer/turn.mixes", laid_wringer_turn_mixes), ("wringer/turn.unmixes", laid_wringer_turn_unmixes)], narrowed := true }
def TurnBacksUptoSaid : Prop := turnBacksUptoRow.holds Tryd.pinned (OpenSpec.upto turnBacksSpec)

/-- 'wringerlaw03.TurnUndone', WHERE WHAT IT READS IS OF BULK AT MOST 1048576: true; the input reads as it did. -/
def turnUndoneUptoRow : OpenClaim := { program := "ytalcgmhdgegebaadoor", sum := "bf2c67030d7dd5c18b17b32a819beaf2458c6a8f94c63fc33917e7cb5801cee8", func := "wringer/wringerlaw03.TurnUndone", spec := "turnUndone", unfollowed := true, recurses := true, named := ["wringer/turn.mixes", "wringer/turn.unmixes"], apart := false, laid := [("wringer/turn.mixes", laid_wringer_turn_mixes), ("wringer/turn.unmixes", laid_wringer_turn_unmixes)], narrowed := true }
def TurnUndoneUptoSaid : Prop := turnUndoneUptoRow.holds Tryd.pinned (OpenSpec.upto turnUndoneSpec)

end Rows
end Go.Proofs.YtalcgmhdgegebaaDoor
