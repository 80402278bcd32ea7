/-
  DERIVED. GIVEN WITH THE SEED: THE CARDS: each row of YtalcgmhdgegebaaDoorRows.lean that lists a variable, with what it lists TIED to the program's text (the seventh form; the later family's looks); each row that meets fmt, with fmt's text TOLD by the authors' own Lean function (tested against real Go, not proved from fmt's source: count such statements apart). THE CARD IS WHAT COUNTS. Prove the row's statement (the work); the ties are given (YtalcgmhdgegebaaDoorTie.lean); close each card by the builder's one call (the guide's Derived/Test/ToyasCard.lean, 'card_holds'). Laid BY PROGRAM, IN A SANDBOX (cutbox-door.mjs). By AI agents, Wed Nov 11 2026. No macro, syntax, notation, axiom, sorry.
-/
import Derived.Test.YtalcgmhdgegebaaDoorRows
import GoSem.ClaimSeven
namespace Go.Proofs.YtalcgmhdgegebaaDoor
namespace Rows

/-- THE TIED CARD OF 'wringerlaw03.TurnKeys'. -/
def turnKeysCard : Claim7 := { stood := { row := turnKeysRow, standIns := [], harness := (true, "48b65478e678dd56d56c3f44b40f67d7752f3e50e72a57ca048b6bc4619aeac0"), looks := false }, kinds := [], alts := [], laidByText := true, laidKinds := [.data, .data], laidTests := true, laidLooks := .later }
def TurnKeysCardSaid : Prop := Claim7.holds Tryd.pinned (.plain (OpenSpec.ofChange turnKeysSpec)) turnKeysCard

/-- THE TIED CARD OF 'wringerlaw03.TurnLocal'. -/
def turnLocalCard : Claim7 := { stood := { row := turnLocalRow, standIns := [], harness := (true, "48b65478e678dd56d56c3f44b40f67d7752f3e50e72a57ca048b6bc4619aeac0"), looks := false }, kinds := [], alts := [], laidByText := true, laidKinds := [.data, .data], laidTests := true, laidLooks := .later }
def TurnLocalCardSaid : Prop := Claim7.holds Tryd.pinned (.plain (OpenSpec.ofChange turnLocalSpec)) turnLocalCard

/-- THE TIED CARD OF 'wringerlaw03.TurnRounds'. -/
def turnRoundsCard : Claim7 := { stood := { row := turnRoundsRow, standIns := [], harness := (true, "48b65478e678dd56d56c3f44b40f67d7752f3e50e72a57ca048b6bc4619aeac0"), looks := false }, kinds := [], alts := [], laidByText := true, laidKinds := [.data, .data], laidTests := true, laidLooks := .later }
def TurnRoundsCardSaid : Prop := Claim7.holds Tryd.pinned (.plain (OpenSpec.ofChange turnRoundsSpec)) turnRoundsCard

/-- THE TIED CARD OF 'wringerlaw03.TurnMany'. -/
def turnManyCard : Claim7 := { stood := { row := turnManyRow, standIns := [], harness := (true, "48b65478e678dd56d56c3f44b40f67d7752f3e50e72a57ca048b6bc4619aeac0"), looks := false }, kinds := [], alts := [], laidByText := true, laidKinds := [.data, .data], laidTests := true, laidLooks := .later }
def TurnManyCardSaid : Prop := Claim7.holds Tryd.pinned (.plain (OpenSpec.ofChange turnManySpec)) turnManyCard

/-- THE TIED CARD OF 'wringerlaw03.TurnRow'. -/
def turnRowCard : Claim7 := { stood := { row := turnRowRow, standIns := [], harness := (true, "48b65478e678dd56d56c3f44b40f67d7752f3e50e72a57ca048b6bc4619aeac0"), looks := false }, kinds := [], alts := [], laidByText := true, laidKinds := [.data, .data], laidTests := true, laidLooks := .later }
def TurnRowCardSaid : Prop := Claim7.holds Tryd.pinned (.plain (OpenSpec.ofChange turnRowSpec)) turnRowCard

/-- THE TIED CARD OF 'wringerlaw03.TurnApart'. -/
def turnApartCard : Claim7 := { stood := { row := turnApartRow, standIns := [], harness := (true, "48b65478e678dd56d56c3f44b40f67d7752f3e50e72a57ca048b6bc4619aeac0"), looks := false }, kinds := [], alts := [], laidByText := true, laidKinds := [.data, .data], laidTests := true, laidLooks := .later }
def TurnApartCardSaid : Prop := Claim7.holds Tryd.pinned (.plain (OpenSpec.ofChange turnApartSpec)) turnApartCard

/-- THE TIED CARD OF 'wringerlaw06.BlakeCompresses'. -/
def blakeCompressesCard : Claim7 := { stood := { row := blakeCompressesRow, standIns := [], harness := (true, "48b65478e678dd56d56c3f44b40f67d7752f3e50e72a57ca048b6bc4619aeac0"), looks := false }, kinds := [], alts := [], laidByText := true, laidKinds := [.data, .data], laidTests := true, laidLooks := .later }
def BlakeCompressesCardSaid : Prop := Claim7.holds Tryd.pinned (.plain (OpenSpec.ofChange blakeCompressesSpec)) blakeCompressesCard

/-- THE TIED CARD OF 'wringerlaw06.BlakeSums'. -/
def blakeSumsCard : Claim7 := { stood := { row := blakeSumsRow, standIns := [], harness := (true, "48b65478e678dd56d56c3f44b40f67d7752f3e50e72a57ca048b6bc4619aeac0"), looks := false }, kinds := [], alts := [], laidByText := true, laidKinds := [.data, .data], laidTests := true, laidLooks := .later }
def BlakeSumsCardSaid : Prop := Claim7.holds Tryd.pinned (.plain (OpenSpec.ofChange blakeSumsSpec)) blakeSumsCard

/-- THE TIED CARD OF 'wringerlaw06.BlakeParts'. -/
def blakePartsCard : Claim7 := { stood := { row := blakePartsRow, standIns := [], harness := (true, "48b65478e678dd56d56c3f44b40f67d7752f3e50e72a57ca048b6bc4619aeac0"), looks := false }, kinds := [], alts := [], laidByText := true, laidKinds := [.data, .data], laidTests := true, laidLooks := .later }
def BlakePartsCardSaid : Prop := Claim7.holds Tryd.pinned (.plain (OpenSpec.ofChange blakePartsSpec)) blakePartsCard

/-- THE TIED CARD OF 'wringerlaw06.BlakeKept'. -/
def blakeKeptCard : Claim7 := { stood := { row := blakeKeptRow, standIns := [], harness := (true, "48b65478e678dd56d56c3f44b40f67d7752f3e50e72a57ca048b6bc4619aeac0"), looks := false }, kinds := [], alts := [], laidByText := true, laidKinds := [.data, .data], laidTests := true, laidLooks := .later }
def BlakeKeptCardSaid : Prop := Claim7.holds Tryd.pinned (.plain (OpenSpec.ofChange blakeKeptSpec)) blakeKeptCard

/-- THE TIED CARD OF 'wringerlaw06.BlakeChain'. -/
def blakeChainCard : Claim7 := { stood := { row := blakeChainRow, standIns := [], harness := (true, "48b65478e678dd56d56c3f44b40f67d7752f3e50e72a57ca048b6bc4619aeac0"), looks := false }, kinds := [], alts := [], laidByText := true, laidKinds := [.data, .data], laidTests := true, laidLooks := .later }
def BlakeChainCardSaid : Prop := Claim7.holds Tryd.pinned (.plain (OpenSpec.ofChange blakeChainSpec)) blakeChainCard

/-- THE TIED CARD OF 'wringerlaw03.TurnBacks'. -/
def turnBacksCard : Claim7 := { stood := { row := turnBacksRow, standIns := [], harness := (true, "48b65478e678dd56d56c3f44b40f67d7752f3e50e72a57ca048b6bc4619aeac0"), looks := false }, kinds := [], alts := [], laidByText := true, laidKinds := [.data, .data], laidTests := true, laidLooks := .later }
def TurnBacksCardSaid : Prop := Claim7.holds Tryd.pinned (.plain (OpenSpec.ofChange turnBacksSpec)) turnBacksCard

/-- THE TIED CARD OF 'wringerlaw03.TurnUndone'. -/
def turnUndoneCard : Claim7 := { stood := { row := turnUndoneRow, standIns := [], harness := (true, "48b65478e678dd56d56c3f44b40f67d7752f3e50e72a57ca048b6bc4619aeac0"), looks := false }, kinds := [], alts := [], laidByText := true, laidKinds := [.data, .data], laidTests := true, laidLooks := .later }
def TurnUndoneCardSaid : Prop := Claim7.holds Tryd.pinned (.plain (OpenSpec.ofChange turnUndoneSpec)) turnUndoneCard

/-- THE SECOND FORM's CARD OF 'wringerlaw03.TurnKeys'. -/
def turnKeysUptoCard : Claim7 := { stood := { row := turnKeysUptoRow, standIns := [], harness := (true, "48b65478e678dd56d56c3f44b40f67d7752f3e50e72a57ca048b6bc4619aeac0"), looks := false }, kinds := [], alts := [], laidByText := true, laidKinds := [.data, .data], laidTests := true, laidLooks := .later }
def TurnKeysUptoCardSaid : Prop := Claim7.holds Tryd.pinned (.plain (OpenSpec.upto turnKeysSpec)) turnKeysUptoCard

/-- THE SECOND FORM's CARD OF 'wringerlaw03.TurnLocal'. -/
def turnLocalUptoCard : Claim7 := { stood := { row := turnLocalUptoRow, standIns := [], harness := (true, "48b65478e678dd56d56c3f44b40f67d7752f3e50e72a57ca048b6bc4619aeac0"), looks := false }, kinds := [], alts := [], laidByText := true, laidKinds := [.data, .data], laidTests := true, laidLooks := .later }
def TurnLocalUptoCardSaid : Prop := Claim7.holds Tryd.pinned (.plain (OpenSpec.upto turnLocalSpec)) turnLocalUptoCard

/-- THE SECOND FORM's CARD OF 'wringerlaw03.TurnRounds'. -/
def turnRoundsUptoCard : Claim7 := { stood := { row := turnRoundsUptoRow, standIns := [], harness := (true, "48b65478e678dd56d56c3f44b40f67d7752f3e50e72a57ca048b6bc4619aeac0"), looks := false }, kinds := [], alts := [], laidByText := true, laidKinds := [.data, .data], laidTests := true, laidLooks := .later }
def TurnRoundsUptoCardSaid : Prop := Claim7.holds Tryd.pinned (.plain (OpenSpec.upto turnRoundsSpec)) turnRoundsUptoCard

/-- THE SECOND FORM's CARD OF 'wringerlaw03.TurnMany'. -/
def turnManyUptoCard : Claim7 := { stood := { row := turnManyUptoRow, standIns := [], harness := (true, "48b65478e678dd56d56c3f44b40f67d7752f3e50e72a57ca048b6bc4619aeac0"), looks := false }, kinds := [], alts := [], laidByText := true, laidKinds := [.data, .data], laidTests := true, laidLooks := .later }
def TurnManyUptoCardSaid : Prop := Claim7.holds Tryd.pinned (.plain (OpenSpec.upto turnManySpec)) turnManyUptoCard

/-- THE SECOND FORM's CARD OF 'wringerlaw03.TurnRow'. -/
def turnRowUptoCard : Claim7 := { stood := { row := turnRowUptoRow, standIns := [], harness := (true, "48b65478e678dd56d56c3f44b40f67d7752f3e50e72a57ca048b6bc4619aeac0"), looks := false }, kinds := [], alts := [], laidByText := true, laidKinds := [.data, .data], laidTests := true, laidLooks := .later }
def TurnRowUptoCardSaid : Prop := Claim7.holds Tryd.pinned (.plain (OpenSpec.upto turnRowSpec)) turnRowUptoCard

/-- THE SECOND FORM's CARD OF 'wringerlaw03.TurnApart'. -/
def turnApartUptoCard : Claim7 := { stood := { row := turnApartUptoRow, standIns := [], harness := (true, "48b65478e678dd56d56c3f44b40f67d7752f3e50e72a57ca048b6bc4619aeac0"), looks := false }, kinds := [], alts := [], laidByText := true, laidKinds := [.data, .data], laidTests := true, laidLooks := .later }
def TurnApartUptoCardSaid : Prop := Claim7.holds Tryd.pinned (.plain (OpenSpec.upto turnApartSpec)) turnApartUptoCard

/-- THE SECOND FORM's CARD OF 'wringerlaw06.BlakeCompresses'. -/
def blakeCompressesUptoCard : Claim7 := { stood := { row := blakeCompressesUptoRow, standIns := [], harness := (true, "48b65478e678dd56d56c3f44b40f67d7752f3e50e72a57ca048b6bc4619aeac0"), looks := false }, kinds := [], alts := [], laidByText := true, laidKinds := [.data, .data], laidTests := true, laidLooks := .later }
def BlakeCompressesUptoCardSaid : Prop := Claim7.holds Tryd.pinned (.plain (OpenSpec.upto blakeCompressesSpec)) blakeCompressesUptoCard

/-- THE SECOND FORM's CARD OF 'wringerlaw06.BlakeSums'. -/
def blakeSumsUptoCard : Claim7 := { stood := { row := blakeSumsUptoRow, standIns := [], harness := (true, "48b65478e678dd56d56c3f44b40f67d7752f3e50e72a57ca048b6bc4619aeac0"), looks := false }, kinds := [], alts := [], laidByText := true, laidKinds := [.data, .data], laidTests := true, laidLooks := .later }
def BlakeSumsUptoCardSaid : Prop := Claim7.holds Tryd.pinned (.plain (OpenSpec.upto blakeSumsSpec)) blakeSumsUptoCard

/-- THE SECOND FORM's CARD OF 'wringerlaw06.BlakeParts'. -/
def blakePartsUptoCard : Claim7 := { stood := { row := blakePartsUptoRow, standIns := [], harness := (true, "48b65478e678dd56d56c3f44b40f67d7752f3e50e72a57ca048b6bc4619aeac0"), looks := false }, kinds := [], alts := [], laidByText := true, laidKinds := [.data, .data], laidTests := true, laidLooks := .later }
def BlakePartsUptoCardSaid : Prop := Claim7.holds Tryd.pinned (.plain (OpenSpec.upto blakePartsSpec)) blakePartsUptoCard

/-- THE SECOND FORM's CARD OF 'wringerlaw06.BlakeKept'. -/
def blakeKeptUptoCard : Claim7 := { stood := { row := blakeKeptUptoRow, standIns := [], harness := (true, "48b65478e678dd56d56c3f44b40f67d7752f3e50e72a57ca048b6bc4619aeac0"), looks := false }, kinds := [], alts := [], laidByText := true, laidKinds := [.data, .data], laidTests := true, laidLooks := .later }
def BlakeKeptUptoCardSaid : Prop := Claim7.holds Tryd.pinned (.plain (OpenSpec.upto blakeKeptSpec)) blakeKeptUptoCard

/-- THE SECOND FORM's CARD OF 'wringerlaw06.BlakeChain'. -/
def blakeChainUptoCard : Claim7 := { stood := { row := blakeChainUptoRow, standIns := [], harness := (true, "48b65478e678dd56d56c3f44b40f67d7752f3e50e72a57ca048b6bc4619aeac0"), looks := false }, kinds := [], alts := [], laidByText := true, laidKinds := [.data, .data], laidTests := true, laidLooks := .later }
def BlakeChainUptoCardSaid : Prop := Claim7.holds Tryd.pinned (.plain (OpenSpec.upto blakeChainSpec)) blakeChainUptoCard

/-- THE SECOND FORM's CARD OF 'wringerlaw03.TurnBacks'. -/
def turnBacksUptoCard : Claim7 := { stood := { row := turnBacksUptoRow, standIns := [], harness := (true, "48b65478e678dd56d56c3f44b40f67d7752f3e50e72a57ca048b6bc4619aeac0"), looks := false }, kinds := [], alts := [], laidByText := true, laidKinds := [.data, .data], laidTests := true, laidLooks := .later }
def TurnBacksUptoCardSaid : Prop := Claim7.holds Tryd.pinned (.plain (OpenSpec.upto turnBacksSpec)) turnBacksUptoCard

/-- THE SECOND FORM's CARD OF 'wringerlaw03.TurnUndone'. -/
def turnUndoneUptoCard : Claim7 := { stood := { row := turnUndoneUptoRow, standIns := [], harness := (true, "48b65478e678dd56d56c3f44b40f67d7752f3e50e72a57ca048b6bc4619aeac0"), looks := false }, kinds := [], alts := [], laidByText := true, laidKinds := [.data, .data], laidTests := true, laidLooks := .later }
def TurnUndoneUptoCardSaid : Prop := Claim7.holds Tryd.pinned (.plain (OpenSpec.upto turnUndoneSpec)) turnUndoneUptoCard
end Rows
end Go.Proofs.YtalcgmhdgegebaaDoor
