/-
  DERIVED. GIVEN WITH THE SEED: THE CARDS: each row of YtmclklhnbmkheaaDoorRows.lean that lists a variable, with what it lists TIED to the program's text (the seventh form; the later family's looks); each row that meets fmt, with fmt's text TOLD by the authors' own Lean function (tested against real Go, not proved from fmt's source: count such statements apart). THE CARD IS WHAT COUNTS. Prove the row's statement (the work); the ties are given (YtmclklhnbmkheaaDoorTie.lean); close each card by the builder's one call (the guide's Derived/Test/ToyasCard.lean, 'card_holds'). Laid BY PROGRAM, IN A SANDBOX (cutbox-door.mjs). By AI agents, Wed Nov 11 2026. No macro, syntax, notation, axiom, sorry.
-/
import Derived.Test.YtmclklhnbmkheaaDoorRows
import GoSem.ClaimSeven
namespace Go.Proofs.YtmclklhnbmkheaaDoor
namespace Rows

/-- THE TIED CARD OF 'wringerlaw06.BlakeKept'. -/
def blakeKeptCard : Claim7 := { stood := { row := blakeKeptRow, standIns := [], harness := (true, "88bd069d579095cb0f94713eab46dd7cac7b9868926a5673686617d768db270a"), looks := false }, kinds := [], alts := [], laidByText := true, laidKinds := [.data, .data], laidTests := true, laidLooks := .later }
def BlakeKeptCardSaid : Prop := Claim7.holds Tryd.pinned (.plain (OpenSpec.ofChange blakeKeptSpec)) blakeKeptCard

/-- THE TIED CARD OF 'wringerlaw06.BlakeChain'. -/
def blakeChainCard : Claim7 := { stood := { row := blakeChainRow, standIns := [], harness := (true, "88bd069d579095cb0f94713eab46dd7cac7b9868926a5673686617d768db270a"), looks := false }, kinds := [], alts := [], laidByText := true, laidKinds := [.data, .data], laidTests := true, laidLooks := .later }
def BlakeChainCardSaid : Prop := Claim7.holds Tryd.pinned (.plain (OpenSpec.ofChange blakeChainSpec)) blakeChainCard

/-- THE SECOND FORM's CARD OF 'wringerlaw06.BlakeKept'. -/
def blakeKeptUptoCard : Claim7 := { stood := { row := blakeKeptUptoRow, standIns := [], harness := (true, "88bd069d579095cb0f94713eab46dd7cac7b9868926a5673686617d768db270a"), looks := false }, kinds := [], alts := [], laidByText := true, laidKinds := [.data, .data], laidTests := true, laidLooks := .later }
def BlakeKeptUptoCardSaid : Prop := Claim7.holds Tryd.pinned (.plain (OpenSpec.upto blakeKeptSpec)) blakeKeptUptoCard

/-- THE SECOND FORM's CARD OF 'wringerlaw06.BlakeChain'. -/
def blakeChainUptoCard : Claim7 := { stood := { row := blakeChainUptoRow, standIns := [], harness := (true, "88bd069d579095cb0f94713eab46dd7cac7b9868926a5673686617d768db270a"), looks := false }, kinds := [], alts := [], laidByText := true, laidKinds := [.data, .data], laidTests := true, laidLooks := .later }
def BlakeChainUptoCardSaid : Prop := Claim7.holds Tryd.pinned (.plain (OpenSpec.upto blakeChainSpec)) blakeChainUptoCard
end Rows
end Go.Proofs.YtmclklhnbmkheaaDoor
