/-
  No cell of these rows narrows 'for every input' (looked for: loops, veiled, ifaces, maps, wideKeys, modest, calm, conditions, laid).
  DERIVED. THE GIVEN ROWS OF THIS SEAT. 17 by the template 'for every input the law returns true; each argument reads behind the call as it read before'; 0 by the template 'total and deterministic' (their statements: YtmapcfhhklapbaaTotals.lean).
  GIVEN WITH THE SEED: the statements are not yours to turn. If you find one false, say at which input.
  Laid BY PROGRAM, IN A SANDBOX (cutbox-rows.mjs): the forced cells as the released guide's own fill.sh prints them over the translation 8f34df1bf8baebcd… (all of the seat's roots in one cut). By AI agents, Wed Nov 11 2026. No macro, syntax, notation, axiom, sorry.
-/
import Derived.Test.YtmapcfhhklapbaaChecked
import GoSem.Claim
import GoSem.ClaimJoined
import GoSem.ClaimMapViews
import Derived.JoinedTies
import Derived.KernelRfl
namespace Go.Proofs.Ytmapcfhhklapbaa
/- THE CELL 'sum', in the pinned program and in every row, IS THE sha256 OF THE DUMP (.gsa) THAT YtmapcfhhklapbaaProg.lean LOADS. Nothing in Lean hashes anything: it is a label: what it is worth is what the hold of that sum in a sandbox is worth. -/
noncomputable def Try.pinned : Pinned := { name := "ytmapcfhhklapbaa", sum := "8f34df1bf8baebcd4ee45801cc3ce48028ca352953f574e57aa4973d7575e5df", checked := Try.checked }
namespace Rows
def none {H : Type} : Left H := { results := [], args := [] }

/-- 'wringerlaw01.OctetSteps': WHATEVER THE INPUT: true; the input reads as it did. -/
def octetStepsSpec : ChangeSpec := { name := "octetSteps", fn := fun _ => fun
  | [d1, d2] => { results := [.lit (.bool true)], args := [d1, d2] }
  | _ => none }
def octetStepsRow : OpenClaim := { program := "ytmapcfhhklapbaa", sum := "8f34df1bf8baebcd4ee45801cc3ce48028ca352953f574e57aa4973d7575e5df", func := "wringer/wringerlaw01.OctetSteps", spec := "octetSteps", unfollowed := true, recurses := true, apart := false }
def OctetStepsSaid : Prop := octetStepsRow.holds Try.pinned (OpenSpec.ofChange octetStepsSpec)

/-- ITS FALSE NEIGHBOUR: 'it returns false'. Refute it at one input. -/
def octetStepsWrong : ChangeSpec := { name := "octetSteps", fn := fun _ => fun
  | [d1, d2] => { results := [.lit (.bool false)], args := [d1, d2] }
  | _ => none }
def OctetStepsWrongFalsely : Prop := octetStepsRow.holds Try.pinned (OpenSpec.ofChange octetStepsWrong)

/-- 'wringerlaw01.OctetWords': WHATEVER THE INPUT: true; the input reads as it did. -/
def octetWordsSpec : ChangeSpec := { name := "octetWords", fn := fun _ => fun
  | [d1, d2] => { results := [.lit (.bool true)], args := [d1, d2] }
  | _ => none }
def octetWordsRow : OpenClaim := { program := "ytmapcfhhklapbaa", sum := "8f34df1bf8baebcd4ee45801cc3ce48028ca352953f574e57aa4973d7575e5df", func := "wringer/wringerlaw01.OctetWords", spec := "octetWords", unfollowed := true, recurses := true, apart := false }
def OctetWordsSaid : Prop := octetWordsRow.holds Try.pinned (OpenSpec.ofChange octetWordsSpec)

/-- ITS FALSE NEIGHBOUR: 'it returns false'. Refute it at one input. -/
def octetWordsWrong : ChangeSpec := { name := "octetWords", fn := fun _ => fun
  | [d1, d2] => { results := [.lit (.bool false)], args := [d1, d2] }
  | _ => none }
def OctetWordsWrongFalsely : Prop := octetWordsRow.holds Try.pinned (OpenSpec.ofChange octetWordsWrong)

/-- 'wringerlaw01.OctetXors': WHATEVER THE INPUT: true; the input reads as it did. -/
def octetXorsSpec : ChangeSpec := { name := "octetXors", fn := fun _ => fun
  | [d1, d2] => { results := [.lit (.bool true)], args := [d1, d2] }
  | _ => none }
def octetXorsRow : OpenClaim := { program := "ytmapcfhhklapbaa", sum := "8f34df1bf8baebcd4ee45801cc3ce48028ca352953f574e57aa4973d7575e5df", func := "wringer/wringerlaw01.OctetXors", spec := "octetXors", unfollowed := true, recurses := true, apart := false }
def OctetXorsSaid : Prop := octetXorsRow.holds Try.pinned (OpenSpec.ofChange octetXorsSpec)

/-- ITS FALSE NEIGHBOUR: 'it returns false'. Refute it at one input. -/
def octetXorsWrong : ChangeSpec := { name := "octetXors", fn := fun _ => fun
  | [d1, d2] => { results := [.lit (.bool false)], args := [d1, d2] }
  | _ => none }
def OctetXorsWrongFalsely : Prop := octetXorsRow.holds Try.pinned (OpenSpec.ofChange octetXorsWrong)

/-- 'wringerlaw01.OctetMarks': WHATEVER THE INPUT: true; the input reads as it did. -/
def octetMarksSpec : ChangeSpec := { name := "octetMarks", fn := fun _ => fun
  | [d] => { results := [.lit (.bool true)], args := [d] }
  | _ => none }
def octetMarksRow : OpenClaim := { program := "ytmapcfhhklapbaa", sum := "8f34df1bf8baebcd4ee45801cc3ce48028ca352953f574e57aa4973d7575e5df", func := "wringer/wringerlaw01.OctetMarks", spec := "octetMarks", unfollowed := true, recurses := true, apart := false }
def OctetMarksSaid : Prop := octetMarksRow.holds Try.pinned (OpenSpec.ofChange octetMarksSpec)

/-- ITS FALSE NEIGHBOUR: 'it returns false'. Refute it at one input. -/
def octetMarksWrong : ChangeSpec := { name := "octetMarks", fn := fun _ => fun
  | [d] => { results := [.lit (.bool false)], args := [d] }
  | _ => none }
def OctetMarksWrongFalsely : Prop := octetMarksRow.holds Try.pinned (OpenSpec.ofChange octetMarksWrong)

/-- 'wringerlaw01.OctetRows': WHATEVER THE INPUT: true; the input reads as it did. -/
def octetRowsSpec : ChangeSpec := { name := "octetRows", fn := fun _ => fun
  | [d] => { results := [.lit (.bool true)], args := [d] }
  | _ => none }
def octetRowsRow : OpenClaim := { program := "ytmapcfhhklapbaa", sum := "8f34df1bf8baebcd4ee45801cc3ce48028ca352953f574e57aa4973d7575e5df", func := "wringer/wringerlaw01.OctetRows", spec := "octetRows", unfollowed := true, recurses := true, apart := false }
def OctetRowsSaid : Prop := octetRowsRow.holds Try.pinned (OpenSpec.ofChange octetRowsSpec)

/-- ITS FALSE NEIGHBOUR: 'it returns false'. Refute it at one input. -/
def octetRowsWrong : ChangeSpec := { name := "octetRows", fn := fun _ => fun
  | [d] => { results := [.lit (.bool false)], args := [d] }
  | _ => none }
def OctetRowsWrongFalsely : Prop := octetRowsRow.holds Try.pinned (OpenSpec.ofChange octetRowsWrong)

/-- 'wringerlaw01.OctetPuts': WHATEVER THE INPUT: true; the input reads as it did. -/
def octetPutsSpec : ChangeSpec := { name := "octetPuts", fn := fun _ => fun
  | [d1, d2, d3] => { results := [.lit (.bool true)], args := [d1, d2, d3] }
  | _ => none }
def octetPutsRow : OpenClaim := { program := "ytmapcfhhklapbaa", sum := "8f34df1bf8baebcd4ee45801cc3ce48028ca352953f574e57aa4973d7575e5df", func := "wringer/wringerlaw01.OctetPuts", spec := "octetPuts", unfollowed := true, recurses := true, apart := false }
def OctetPutsSaid : Prop := octetPutsRow.holds Try.pinned (OpenSpec.ofChange octetPutsSpec)

/-- ITS FALSE NEIGHBOUR: 'it returns false'. Refute it at one input. -/
def octetPutsWrong : ChangeSpec := { name := "octetPuts", fn := fun _ => fun
  | [d1, d2, d3] => { results := [.lit (.bool false)], args := [d1, d2, d3] }
  | _ => none }
def OctetPutsWrongFalsely : Prop := octetPutsRow.holds Try.pinned (OpenSpec.ofChange octetPutsWrong)

/-- 'wringerlaw01.OctetSums': WHATEVER THE INPUT: true; the input reads as it did. -/
def octetSumsSpec : ChangeSpec := { name := "octetSums", fn := fun _ => fun
  | [d1, d2] => { results := [.lit (.bool true)], args := [d1, d2] }
  | _ => none }
def octetSumsRow : OpenClaim := { program := "ytmapcfhhklapbaa", sum := "8f34df1bf8baebcd4ee45801cc3ce48028ca352953f574e57aa4973d7575e5df", func := "wringer/wringerlaw01.OctetSums", spec := "octetSums", inPlace := ["math/bits.Add64", "math/bits.Sub64"], unfollowed := true, recurses := true, apart := false }
def OctetSumsSaid : Prop := octetSumsRow.holds Try.pinned (OpenSpec.ofChange octetSumsSpec)

/-- ITS FALSE NEIGHBOUR: 'it returns false'. Refute it at one input. -/
def octetSumsWrong : ChangeSpec := { name := "octetSums", fn := fun _ => fun
  | [d1, d2] => { results := [.lit (.bool false)], args := [d1, d2] }
  | _ => none }
def OctetSumsWrongFalsely : Prop := octetSumsRow.holds Try.pinned (OpenSpec.ofChange octetSumsWrong)

/-- 'wringerlaw01.OctetGroup': WHATEVER THE INPUT: true; the input reads as it did. -/
def octetGroupSpec : ChangeSpec := { name := "octetGroup", fn := fun _ => fun
  | [d1, d2, d3] => { results := [.lit (.bool true)], args := [d1, d2, d3] }
  | _ => none }
def octetGroupRow : OpenClaim := { program := "ytmapcfhhklapbaa", sum := "8f34df1bf8baebcd4ee45801cc3ce48028ca352953f574e57aa4973d7575e5df", func := "wringer/wringerlaw01.OctetGroup", spec := "octetGroup", inPlace := ["math/bits.Add64", "math/bits.Sub64"], unfollowed := true, recurses := true, apart := false }
def OctetGroupSaid : Prop := octetGroupRow.holds Try.pinned (OpenSpec.ofChange octetGroupSpec)

/-- ITS FALSE NEIGHBOUR: 'it returns false'. Refute it at one input. -/
def octetGroupWrong : ChangeSpec := { name := "octetGroup", fn := fun _ => fun
  | [d1, d2, d3] => { results := [.lit (.bool false)], args := [d1, d2, d3] }
  | _ => none }
def OctetGroupWrongFalsely : Prop := octetGroupRow.holds Try.pinned (OpenSpec.ofChange octetGroupWrong)

/-- 'wringerlaw01.OctetBack': WHATEVER THE INPUT: true; the input reads as it did. -/
def octetBackSpec : ChangeSpec := { name := "octetBack", fn := fun _ => fun
  | [d1, d2, d3] => { results := [.lit (.bool true)], args := [d1, d2, d3] }
  | _ => none }
def octetBackRow : OpenClaim := { program := "ytmapcfhhklapbaa", sum := "8f34df1bf8baebcd4ee45801cc3ce48028ca352953f574e57aa4973d7575e5df", func := "wringer/wringerlaw01.OctetBack", spec := "octetBack", unfollowed := true, recurses := true, apart := false }
def OctetBackSaid : Prop := octetBackRow.holds Try.pinned (OpenSpec.ofChange octetBackSpec)

/-- ITS FALSE NEIGHBOUR: 'it returns false'. Refute it at one input. -/
def octetBackWrong : ChangeSpec := { name := "octetBack", fn := fun _ => fun
  | [d1, d2, d3] => { results := [.lit (.bool false)], args := [d1, d2, d3] }
  | _ => none }
def OctetBackWrongFalsely : Prop := octetBackRow.holds Try.pinned (OpenSpec.ofChange octetBackWrong)

/-- 'wringerlaw02.GfTimes': WHATEVER THE INPUT: true; the input reads as it did. -/
def gfTimesSpec : ChangeSpec := { name := "gfTimes", fn := fun _ => fun
  | [d1, d2] => { results := [.lit (.bool true)], args := [d1, d2] }
  | _ => none }
def gfTimesRow : OpenClaim := { program := "ytmapcfhhklapbaa", sum := "8f34df1bf8baebcd4ee45801cc3ce48028ca352953f574e57aa4973d7575e5df", func := "wringer/wringerlaw02.GfTimes", spec := "gfTimes", apart := false }
def GfTimesSaid : Prop := gfTimesRow.holds Try.pinned (OpenSpec.ofChange gfTimesSpec)

/-- ITS FALSE NEIGHBOUR: 'it returns false'. Refute it at one input. -/
def gfTimesWrong : ChangeSpec := { name := "gfTimes", fn := fun _ => fun
  | [d1, d2] => { results := [.lit (.bool false)], args := [d1, d2] }
  | _ => none }
def GfTimesWrongFalsely : Prop := gfTimesRow.holds Try.pinned (OpenSpec.ofChange gfTimesWrong)

/-- 'wringerlaw02.GfPowers': WHATEVER THE INPUT: true; the input reads as it did. -/
def gfPowersSpec : ChangeSpec := { name := "gfPowers", fn := fun _ => fun
  | [d1, d2] => { results := [.lit (.bool true)], args := [d1, d2] }
  | _ => none }
def gfPowersRow : OpenClaim := { program := "ytmapcfhhklapbaa", sum := "8f34df1bf8baebcd4ee45801cc3ce48028ca352953f574e57aa4973d7575e5df", func := "wringer/wringerlaw02.GfPowers", spec := "gfPowers", apart := false }
def GfPowersSaid : Prop := gfPowersRow.holds Try.pinned (OpenSpec.ofChange gfPowersSpec)

/-- ITS FALSE NEIGHBOUR: 'it returns false'. Refute it at one input. -/
def gfPowersWrong : ChangeSpec := { name := "gfPowers", fn := fun _ => fun
  | [d1, d2] => { results := [.lit (.bool false)], args := [d1, d2] }
  | _ => none }
def GfPowersWrongFalsely : Prop := gfPowersRow.holds Try.pinned (OpenSpec.ofChange gfPowersWrong)

/-- 'wringerlaw02.GfRing': WHATEVER THE INPUT: true; the input reads as it did. -/
def gfRingSpec : ChangeSpec := { name := "gfRing", fn := fun _ => fun
  | [d1, d2, d3] => { results := [.lit (.bool true)], args := [d1, d2, d3] }
  | _ => none }
def gfRingRow : OpenClaim := { program := "ytmapcfhhklapbaa", sum := "8f34df1bf8baebcd4ee45801cc3ce48028ca352953f574e57aa4973d7575e5df", func := "wringer/wringerlaw02.GfRing", spec := "gfRing", apart := false }
def GfRingSaid : Prop := gfRingRow.holds Try.pinned (OpenSpec.ofChange gfRingSpec)

/-- ITS FALSE NEIGHBOUR: 'it returns false'. Refute it at one input. -/
def gfRingWrong : ChangeSpec := { name := "gfRing", fn := fun _ => fun
  | [d1, d2, d3] => { results := [.lit (.bool false)], args := [d1, d2, d3] }
  | _ => none }
def GfRingWrongFalsely : Prop := gfRingRow.holds Try.pinned (OpenSpec.ofChange gfRingWrong)

/-- 'wringerlaw02.GfField': WHATEVER THE INPUT: true; the input reads as it did. -/
def gfFieldSpec : ChangeSpec := { name := "gfField", fn := fun _ => fun
  | [d1, d2] => { results := [.lit (.bool true)], args := [d1, d2] }
  | _ => none }
def gfFieldRow : OpenClaim := { program := "ytmapcfhhklapbaa", sum := "8f34df1bf8baebcd4ee45801cc3ce48028ca352953f574e57aa4973d7575e5df", func := "wringer/wringerlaw02.GfField", spec := "gfField", apart := false }
def GfFieldSaid : Prop := gfFieldRow.holds Try.pinned (OpenSpec.ofChange gfFieldSpec)

/-- ITS FALSE NEIGHBOUR: 'it returns false'. Refute it at one input. -/
def gfFieldWrong : ChangeSpec := { name := "gfField", fn := fun _ => fun
  | [d1, d2] => { results := [.lit (.bool false)], args := [d1, d2] }
  | _ => none }
def GfFieldWrongFalsely : Prop := gfFieldRow.holds Try.pinned (OpenSpec.ofChange gfFieldWrong)

/-- 'wringerlaw02.GfRounds': WHATEVER THE INPUT: true; the input reads as it did. -/
def gfRoundsSpec : ChangeSpec := { name := "gfRounds", fn := fun _ => fun
  | [d1, d2, d3] => { results := [.lit (.bool true)], args := [d1, d2, d3] }
  | _ => none }
def gfRoundsRow : OpenClaim := { program := "ytmapcfhhklapbaa", sum := "8f34df1bf8baebcd4ee45801cc3ce48028ca352953f574e57aa4973d7575e5df", func := "wringer/wringerlaw02.GfRounds", spec := "gfRounds", apart := false }
def GfRoundsSaid : Prop := gfRoundsRow.holds Try.pinned (OpenSpec.ofChange gfRoundsSpec)

/-- ITS FALSE NEIGHBOUR: 'it returns false'. Refute it at one input. -/
def gfRoundsWrong : ChangeSpec := { name := "gfRounds", fn := fun _ => fun
  | [d1, d2, d3] => { results := [.lit (.bool false)], args := [d1, d2, d3] }
  | _ => none }
def GfRoundsWrongFalsely : Prop := gfRoundsRow.holds Try.pinned (OpenSpec.ofChange gfRoundsWrong)

/-- 'wringerlaw02.GfDoubles': WHATEVER THE INPUT: true; the input reads as it did. -/
def gfDoublesSpec : ChangeSpec := { name := "gfDoubles", fn := fun _ => fun
  | [d1, d2] => { results := [.lit (.bool true)], args := [d1, d2] }
  | _ => none }
def gfDoublesRow : OpenClaim := { program := "ytmapcfhhklapbaa", sum := "8f34df1bf8baebcd4ee45801cc3ce48028ca352953f574e57aa4973d7575e5df", func := "wringer/wringerlaw02.GfDoubles", spec := "gfDoubles", apart := false }
def GfDoublesSaid : Prop := gfDoublesRow.holds Try.pinned (OpenSpec.ofChange gfDoublesSpec)

/-- ITS FALSE NEIGHBOUR: 'it returns false'. Refute it at one input. -/
def gfDoublesWrong : ChangeSpec := { name := "gfDoubles", fn := fun _ => fun
  | [d1, d2] => { results := [.lit (.bool false)], args := [d1, d2] }
  | _ => none }
def GfDoublesWrongFalsely : Prop := gfDoublesRow.holds Try.pinned (OpenSpec.ofChange gfDoublesWrong)

/-- 'wringerlaw02.GfBoxes': WHATEVER THE INPUT: true; the input reads as it did. -/
def gfBoxesSpec : ChangeSpec := { name := "gfBoxes", fn := fun _ => fun
  | [d] => { results := [.lit (.bool true)], args := [d] }
  | _ => none }
def gfBoxesRow : OpenClaim := { program := "ytmapcfhhklapbaa", sum := "8f34df1bf8baebcd4ee45801cc3ce48028ca352953f574e57aa4973d7575e5df", func := "wringer/wringerlaw02.GfBoxes", spec := "gfBoxes", apart := false }
def GfBoxesSaid : Prop := gfBoxesRow.holds Try.pinned (OpenSpec.ofChange gfBoxesSpec)

/-- ITS FALSE NEIGHBOUR: 'it returns false'. Refute it at one input. -/
def gfBoxesWrong : ChangeSpec := { name := "gfBoxes", fn := fun _ => fun
  | [d] => { results := [.lit (.bool false)], args := [d] }
  | _ => none }
def GfBoxesWrongFalsely : Prop := gfBoxesRow.holds Try.pinned (OpenSpec.ofChange gfBoxesWrong)

/-- 'wringerlaw02.GfBack': WHATEVER THE INPUT: true; the input reads as it did. -/
def gfBackSpec : ChangeSpec := { name := "gfBack", fn := fun _ => fun
  | [d1, d2] => { results := [.lit (.bool true)], args := [d1, d2] }
  | _ => none }
def gfBackRow : OpenClaim := { program := "ytmapcfhhklapbaa", sum := "8f34df1bf8baebcd4ee45801cc3ce48028ca352953f574e57aa4973d7575e5df", func := "wringer/wringerlaw02.GfBack", spec := "gfBack", apart := false }
def GfBackSaid : Prop := gfBackRow.holds Try.pinned (OpenSpec.ofChange gfBackSpec)

/-- ITS FALSE NEIGHBOUR: 'it returns false'. Refute it at one input. -/
def gfBackWrong : ChangeSpec := { name := "gfBack", fn := fun _ => fun
  | [d1, d2] => { results := [.lit (.bool false)], args := [d1, d2] }
  | _ => none }
def GfBackWrongFalsely : Prop := gfBackRow.holds Try.pinned (OpenSpec.ofChange gfBackWrong)

/- THE SECOND FORM. 'bulk': how many values and letters a reading holds, each counted each time it is reached (what is shared counts as often as it is met; a slice's spare places count too). A statement '..UptoSaid' is the law's where the arguments, and the package variables that the reading takes, are together of bulk at most 1048576: NARROWER than '..Said'. Prove '..Said' where nothing that the law and all that it calls make is longer than what came in: it says more and counts as full. Else prove '..UptoSaid'. A law counts once. -/
mutual
def uptoBulk {H : Type} : DataW H → Nat
  | .lit (.string bytes) => bytes.length + 1
  | .lit _ => 1
  | .nil => 1
  | .ptr d => uptoBulk d + 1
  | .slice elems spare => uptoBulkAll elems + uptoBulkAll spare + 1
  | .agg parts => uptoBulkAll parts + 1
  | .iface _ d => uptoBulk d + 1
  | .map entries => uptoBulkEntries entries + 1
  | .held _ => 1
def uptoBulkAll {H : Type} : List (DataW H) → Nat
  | [] => 0
  | d :: r => uptoBulk d + uptoBulkAll r
def uptoBulkEntries {H : Type} : List (Lit × DataW H) → Nat
  | [] => 0
  | x :: r => uptoBulkEntry x + uptoBulkEntries r
def uptoBulkEntry {H : Type} : Lit × DataW H → Nat
  | (.string bytes, d) => bytes.length + uptoBulk d + 1
  | (_, d) => uptoBulk d + 1
 end
def uptoSmall : (H : Type) → List (DataW H) → Bool := fun _ ds => decide (uptoBulkAll ds ≤ 1048576)
def OpenSpec.upto (s : _root_.Go.ChangeSpec) : _root_.Go.OpenSpec := { _root_.Go.OpenSpec.ofChange s with cond := some uptoSmall }

/-- 'wringerlaw01.OctetSteps', WHERE WHAT IT READS IS OF BULK AT MOST 1048576: true; the input reads as it did. -/
def octetStepsUptoRow : OpenClaim := { program := "ytmapcfhhklapbaa", sum := "8f34df1bf8baebcd4ee45801cc3ce48028ca352953f574e57aa4973d7575e5df", func := "wringer/wringerlaw01.OctetSteps", spec := "octetSteps", unfollowed := true, recurses := true, apart := false, narrowed := true }
def OctetStepsUptoSaid : Prop := octetStepsUptoRow.holds Try.pinned (OpenSpec.upto octetStepsSpec)

/-- 'wringerlaw01.OctetWords', WHERE WHAT IT READS IS OF BULK AT MOST 1048576: true; the input reads as it did. -/
def octetWordsUptoRow : OpenClaim := { program := "ytmapcfhhklapbaa", sum := "8f34df1bf8baebcd4ee45801cc3ce48028ca352953f574e57aa4973d7575e5df", func := "wringer/wringerlaw01.OctetWords", spec := "octetWords", unfollowed := true, recurses := true, apart := false, narrowed := true }
def OctetWordsUptoSaid : Prop := octetWordsUptoRow.holds Try.pinned (OpenSpec.upto octetWordsSpec)

/-- 'wringerlaw01.OctetXors', WHERE WHAT IT READS IS OF BULK AT MOST 1048576: true; the input reads as it did. -/
def octetXorsUptoRow : OpenClaim := { program := "ytmapcfhhklapbaa", sum := "8f34df1bf8baebcd4ee45801cc3ce48028ca352953f574e57aa4973d7575e5df", func := "wringer/wringerlaw01.OctetXors", spec := "octetXors", unfollowed := true, recurses := true, apart := false, narrowed := true }
def OctetXorsUptoSaid : Prop := octetXorsUptoRow.holds Try.pinned (OpenSpec.upto octetXorsSpec)

/-- 'wringerlaw01.OctetMarks', WHERE WHAT IT READS IS OF BULK AT MOST 1048576: true; the input reads as it did. -/
def octetMarksUptoRow : OpenClaim := { program := "ytmapcfhhklapbaa", sum := "8f34df1bf8baebcd4ee45801cc3ce48028ca352953f574e57aa4973d7575e5df", func := "wringer/wringerlaw01.OctetMarks", spec := "octetMarks", unfollowed := true, recurses := true, apart := false, narrowed := true }
def OctetMarksUptoSaid : Prop := octetMarksUptoRow.holds Try.pinned (OpenSpec.upto octetMarksSpec)

/-- 'wringerlaw01.OctetRows', WHERE WHAT IT READS IS OF BULK AT MOST 1048576: true; the input reads as it did. -/
def octetRowsUptoRow : OpenClaim := { program := "ytmapcfhhklapbaa", sum := "8f34df1bf8baebcd4ee45801cc3ce48028ca352953f574e57aa4973d7575e5df", func := "wringer/wringerlaw01.OctetRows", spec := "octetRows", unfollowed := true, recurses := true, apart := false, narrowed := true }
def OctetRowsUptoSaid : Prop := octetRowsUptoRow.holds Try.pinned (OpenSpec.upto octetRowsSpec)

/-- 'wringerlaw01.OctetPuts', WHERE WHAT IT READS IS OF BULK AT MOST 1048576: true; the input reads as it did. -/
def octetPutsUptoRow : OpenClaim := { program := "ytmapcfhhklapbaa", sum := "8f34df1bf8baebcd4ee45801cc3ce48028ca352953f574e57aa4973d7575e5df", func := "wringer/wringerlaw01.OctetPuts", spec := "octetPuts", unfollowed := true, recurses := true, apart := false, narrowed := true }
def OctetPutsUptoSaid : Prop := octetPutsUptoRow.holds Try.pinned (OpenSpec.upto octetPutsSpec)

/-- 'wringerlaw01.OctetSums', WHERE WHAT IT READS IS OF BULK AT MOST 1048576: true; the input reads as it did. -/
def octetSumsUptoRow : OpenClaim := { program := "ytmapcfhhklapbaa", sum := "8f34df1bf8baebcd4ee45801cc3ce48028ca352953f574e57aa4973d7575e5df", func := "wringer/wringerlaw01.OctetSums", spec := "octetSums", inPlace := ["math/bits.Add64", "math/bits.Sub64"], unfollowed := true, recurses := true, apart := false, narrowed := true }
def OctetSumsUptoSaid : Prop := octetSumsUptoRow.holds Try.pinned (OpenSpec.upto octetSumsSpec)

/-- 'wringerlaw01.OctetGroup', WHERE WHAT IT READS IS OF BULK AT MOST 1048576: true; the input reads as it did. -/
def octetGroupUptoRow : OpenClaim := { program := "ytmapcfhhklapbaa", sum := "8f34df1bf8baebcd4ee45801cc3ce48028ca352953f574e57aa4973d7575e5df", func := "wringer/wringerlaw01.OctetGroup", spec := "octetGroup", inPlace := ["math/bits.Add64", "math/bits.Sub64"], unfollowed := true, recurses := true, apart := false, narrowed := true }
def OctetGroupUptoSaid : Prop := octetGroupUptoRow.holds Try.pinned (OpenSpec.upto octetGroupSpec)

/-- 'wringerlaw01.OctetBack', WHERE WHAT IT READS IS OF BULK AT MOST 1048576: true; the input reads as it did. -/
def octetBackUptoRow : OpenClaim := { program := "ytmapcfhhklapbaa", sum := "8f34df1bf8baebcd4ee45801cc3ce48028ca352953f574e57aa4973d7575e5df", func := "wringer/wringerlaw01.OctetBack", spec := "octetBack", unfollowed := true, recurses := true, apart := false, narrowed := true }
def OctetBackUptoSaid : Prop := octetBackUptoRow.holds Try.pinned (OpenSpec.upto octetBackSpec)

/-- 'wringerlaw02.GfTimes', WHERE WHAT IT READS IS OF BULK AT MOST 1048576: true; the input reads as it did. -/
def gfTimesUptoRow : OpenClaim := { program := "ytmapcfhhklapbaa", sum := "8f34df1bf8baebcd4ee45801cc3ce48028ca352953f574e57aa4973d7575e5df", func := "wringer/wringerlaw02.GfTimes", spec := "gfTimes", apart := false, narrowed := true }
def GfTimesUptoSaid : Prop := gfTimesUptoRow.holds Try.pinned (OpenSpec.upto gfTimesSpec)

/-- 'wringerlaw02.GfPowers', WHERE WHAT IT READS IS OF BULK AT MOST 1048576: true; the input reads as it did. -/
def gfPowersUptoRow : OpenClaim := { program := "ytmapcfhhklapbaa", sum := "8f34df1bf8baebcd4ee45801cc3ce48028ca352953f574e57aa4973d7575e5df", func := "wringer/wringerlaw02.GfPowers", spec := "gfPowers", apart := false, narrowed := true }
def GfPowersUptoSaid : Prop := gfPowersUptoRow.holds Try.pinned (OpenSpec.upto gfPowersSpec)

/-- 'wringerlaw02.GfRing', WHERE WHAT IT READS IS OF BULK AT MOST 1048576: true; the input reads as it did. -/
def gfRingUptoRow : OpenClaim := { program := "ytmapcfhhklapbaa", sum := "8f34df1bf8baebcd4ee45801cc3ce48028ca352953f574e57aa4973d7575e5df", func := "wringer/wringerlaw02.GfRing", spec := "gfRing", apart := false, narrowed := true }
def GfRingUptoSaid : Prop := gfRingUptoRow.holds Try.pinned (OpenSpec.upto gfRingSpec)

/-- 'wringerlaw02.GfField', WHERE WHAT IT READS IS OF BULK AT MOST 1048576: true; the input reads as it did. -/
def gfFieldUptoRow : OpenClaim := { program := "ytmapcfhhklapbaa", sum := "8f34df1bf8baebcd4ee45801cc3ce48028ca352953f574e57aa4973d7575e5df", func := "wringer/wringerlaw02.GfField", spec := "gfField", apart := false, narrowed := true }
def GfFieldUptoSaid : Prop := gfFieldUptoRow.holds Try.pinned (OpenSpec.upto gfFieldSpec)

/-- 'wringerlaw02.GfRounds', WHERE WHAT IT READS IS OF BULK AT MOST 1048576: true; the input reads as it did. -/
def gfRoundsUptoRow : OpenClaim := { program := "ytmapcfhhklapbaa", sum := "8f34df1bf8baebcd4ee45801cc3ce48028ca352953f574e57aa4973d7575e5df", func := "wringer/wringerlaw02.GfRounds", spec := "gfRounds", apart := false, narrowed := true }
def GfRoundsUptoSaid : Prop := gfRoundsUptoRow.holds Try.pinned (OpenSpec.upto gfRoundsSpec)

/-- 'wringerlaw02.GfDoubles', WHERE WHAT IT READS IS OF BULK AT MOST 1048576: true; the input reads as it did. -/
def gfDoublesUptoRow : OpenClaim := { program := "ytmapcfhhklapbaa", sum := "8f34df1bf8baebcd4ee45801cc3ce48028ca352953f574e57aa4973d7575e5df", func := "wringer/wringerlaw02.GfDoubles", spec := "gfDoubles", apart := false, narrowed := true }
def GfDoublesUptoSaid : Prop := gfDoublesUptoRow.holds Try.pinned (OpenSpec.upto gfDoublesSpec)

/-- 'wringerlaw02.GfBoxes', WHERE WHAT IT READS IS OF BULK AT MOST 1048576: true; the input reads as it did. -/
def gfBoxesUptoRow : OpenClaim := { program := "ytmapcfhhklapbaa", sum := "8f34df1bf8baebcd4ee45801cc3ce48028ca352953f574e57aa4973d7575e5df", func := "wringer/wringerlaw02.GfBoxes", spec := "gfBoxes", apart := false, narrowed := true }
def GfBoxesUptoSaid : Prop := gfBoxesUptoRow.holds Try.pinned (OpenSpec.upto gfBoxesSpec)

/-- 'wringerlaw02.GfBack', WHERE WHAT IT READS IS OF BULK AT MOST 1048576: true; the input reads as it did. -/
def gfBackUptoRow : OpenClaim := { program := "ytmapcfhhklapbaa", sum := "8f34df1bf8baebcd4ee45801cc3ce48028ca352953f574e57aa4973d7575e5df", func := "wringer/wringerlaw02.GfBack", spec := "gfBack", apart := false, narrowed := true }
def GfBackUptoSaid : Prop := gfBackUptoRow.holds Try.pinned (OpenSpec.upto gfBackSpec)

end Rows
end Go.Proofs.Ytmapcfhhklapbaa
