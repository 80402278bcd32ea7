/-
  DERIVED. GIVEN WITH THE SEED: THE CARDS: each row of YtaijfigohlkccaaGreatDoorRows.lean that lists a variable, with what it lists TIED to the program's text (the seventh form; the later family's looks); each row that meets fmt, with fmt's text TOLD by the authors' own Lean function (tested against real Go, not proved from fmt's source: count such statements apart). THE CARD IS WHAT COUNTS. Prove the row's statement (the work); the ties are given (YtaijfigohlkccaaGreatDoorTie.lean); close each card by the builder's one call (the guide's Derived/Test/ToyasCard.lean, 'card_holds'). Laid BY PROGRAM, IN A SANDBOX (cutbox-door.mjs). By AI agents, Wed Nov 11 2026. No macro, syntax, notation, axiom, sorry.
-/
import Derived.Test.YtaijfigohlkccaaGreatDoorRows
import GoSem.ClaimSeven
namespace Go.Proofs.YtaijfigohlkccaaGreatDoor
namespace Rows

/-- THE TIED CARD OF 'wringerlaw20.CoreTurns'. -/
def coreTurnsCard : Claim7 := { stood := { row := coreTurnsRow, standIns := [], harness := (true, "3dc94aacdce8c6dc43e6764adbd0436eaf2c3eebc75a6364b70c315648843833"), looks := false }, kinds := [], alts := [], laidByText := true, laidKinds := [.data, .data, .data, .data], laidTests := true, laidLooks := .later }
def CoreTurnsCardSaid : Prop := Claim7.holds Tryz.pinned (.plain (OpenSpec.ofChange coreTurnsSpec)) coreTurnsCard

/-- THE TIED CARD OF 'wringerlaw19.TinyTurns'. -/
def tinyTurnsCard : Claim7 := { stood := { row := tinyTurnsRow, standIns := [], harness := (true, "3dc94aacdce8c6dc43e6764adbd0436eaf2c3eebc75a6364b70c315648843833"), looks := false }, kinds := [], alts := [], laidByText := true, laidKinds := [.data, .data, .data, .data], laidTests := true, laidLooks := .later }
def TinyTurnsCardSaid : Prop := Claim7.holds Tryz.pinned (.plain (OpenSpec.ofChange tinyTurnsSpec)) tinyTurnsCard

/-- THE TIED CARD OF 'wringerlaw19.TinySteps'. -/
def tinyStepsCard : Claim7 := { stood := { row := tinyStepsRow, standIns := [], harness := (true, "3dc94aacdce8c6dc43e6764adbd0436eaf2c3eebc75a6364b70c315648843833"), looks := false }, kinds := [], alts := [], laidByText := true, laidKinds := [.data, .data, .data, .data], laidTests := true, laidLooks := .later }
def TinyStepsCardSaid : Prop := Claim7.holds Tryz.pinned (.plain (OpenSpec.ofChange tinyStepsSpec)) tinyStepsCard

/-- THE SECOND FORM's CARD OF 'wringerlaw20.CoreTurns'. -/
def coreTurnsUptoCard : Claim7 := { stood := { row := coreTurnsUptoRow, standIns := [], harness := (true, "3dc94aacdce8c6dc43e6764adbd0436eaf2c3eebc75a6364b70c315648843833"), looks := false }, kinds := [], alts := [], laidByText := true, laidKinds := [.data, .data, .data, .data], laidTests := true, laidLooks := .later }
def CoreTurnsUptoCardSaid : Prop := Claim7.holds Tryz.pinned (.plain (OpenSpec.upto coreTurnsSpec)) coreTurnsUptoCard

/-- THE SECOND FORM's CARD OF 'wringerlaw19.TinyTurns'. -/
def tinyTurnsUptoCard : Claim7 := { stood := { row := tinyTurnsUptoRow, standIns := [], harness := (true, "3dc94aacdce8c6dc43e6764adbd0436eaf2c3eebc75a6364b70c315648843833"), looks := false }, kinds := [], alts := [], laidByText := true, laidKinds := [.data, .data, .data, .data], laidTests := true, laidLooks := .later }
def TinyTurnsUptoCardSaid : Prop := Claim7.holds Tryz.pinned (.plain (OpenSpec.upto tinyTurnsSpec)) tinyTurnsUptoCard

/-- THE SECOND FORM's CARD OF 'wringerlaw19.TinySteps'. -/
def tinyStepsUptoCard : Claim7 := { stood := { row := tinyStepsUptoRow, standIns := [], harness := (true, "3dc94aacdce8c6dc43e6764adbd0436eaf2c3eebc75a6364b70c315648843833"), looks := false }, kinds := [], alts := [], laidByText := true, laidKinds := [.data, .data, .data, .data], laidTests := true, laidLooks := .later }
def TinyStepsUptoCardSaid : Prop := Claim7.holds Tryz.pinned (.plain (OpenSpec.upto tinyStepsSpec)) tinyStepsUptoCard
end Rows
end Go.Proofs.YtaijfigohlkccaaGreatDoor
