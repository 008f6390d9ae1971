/-
  DERIVED. GIVEN WITH THE SEED: THE CARDS: each row of YtombochecgjmjaaDoorRows.lean that lists a variable, with what it lists TIED to the program's text (the seventh form; the later family's looks); each row that meets fmt, with fmt's text TOLD by the authors' own Lean function (tested against real Go, not proved from fmt's source: count such statements apart). THE CARD IS WHAT COUNTS. Prove the row's statement (the work); the ties are given (YtombochecgjmjaaDoorTie.lean); close each card by the builder's one call (the guide's Derived/Test/ToyasCard.lean, 'card_holds'). Laid BY PROGRAM, IN A SANDBOX (cutbox-door.mjs). By AI agents, Wed Nov 11 2026. No macro, syntax, notation, axiom, sorry.
-/
import Derived.Test.YtombochecgjmjaaDoorRows
import GoSem.ClaimSeven
namespace Go.Proofs.YtombochecgjmjaaDoor
namespace Rows

/-- THE TIED CARD OF 'chafflaw13.SealOpens'. -/
def sealOpensCard : Claim7 := { stood := { row := sealOpensRow, standIns := [], harness := (true, "1ca5a53e2b9e4ad52a75ee871f9391bab19ac872601f4b56698e73f387a1c008"), looks := false }, kinds := [], alts := [], laidByText := true, laidKinds := [.data, .pinned], laidTests := true, laidLooks := .later }
def SealOpensCardSaid : Prop := Claim7.holds Tryd.pinned (.plain (OpenSpec.ofChange sealOpensSpec)) sealOpensCard

/-- THE TIED CARD OF 'chafflaw13.SealCloses'. -/
def sealClosesCard : Claim7 := { stood := { row := sealClosesRow, standIns := [], harness := (true, "1ca5a53e2b9e4ad52a75ee871f9391bab19ac872601f4b56698e73f387a1c008"), looks := false }, kinds := [], alts := [], laidByText := true, laidKinds := [.data, .pinned], laidTests := true, laidLooks := .later }
def SealClosesCardSaid : Prop := Claim7.holds Tryd.pinned (.plain (OpenSpec.ofChange sealClosesSpec)) sealClosesCard

/-- THE TIED CARD OF 'chafflaw13.SealTells'. -/
def sealTellsCard : Claim7 := { stood := { row := sealTellsRow, standIns := [], harness := (true, "1ca5a53e2b9e4ad52a75ee871f9391bab19ac872601f4b56698e73f387a1c008"), looks := false }, kinds := [], alts := [], laidByText := true, laidKinds := [.data, .pinned], laidTests := true, laidLooks := .later }
def SealTellsCardSaid : Prop := Claim7.holds Tryd.pinned (.plain (OpenSpec.ofChange sealTellsSpec)) sealTellsCard

/-- THE SECOND FORM's CARD OF 'chafflaw13.SealOpens'. -/
def sealOpensUptoCard : Claim7 := { stood := { row := sealOpensUptoRow, standIns := [], harness := (true, "1ca5a53e2b9e4ad52a75ee871f9391bab19ac872601f4b56698e73f387a1c008"), looks := false }, kinds := [], alts := [], laidByText := true, laidKinds := [.data, .pinned], laidTests := true, laidLooks := .later }
def SealOpensUptoCardSaid : Prop := Claim7.holds Tryd.pinned (.plain (OpenSpec.upto sealOpensSpec)) sealOpensUptoCard

/-- THE SECOND FORM's CARD OF 'chafflaw13.SealCloses'. -/
def sealClosesUptoCard : Claim7 := { stood := { row := sealClosesUptoRow, standIns := [], harness := (true, "1ca5a53e2b9e4ad52a75ee871f9391bab19ac872601f4b56698e73f387a1c008"), looks := false }, kinds := [], alts := [], laidByText := true, laidKinds := [.data, .pinned], laidTests := true, laidLooks := .later }
def SealClosesUptoCardSaid : Prop := Claim7.holds Tryd.pinned (.plain (OpenSpec.upto sealClosesSpec)) sealClosesUptoCard

/-- THE SECOND FORM's CARD OF 'chafflaw13.SealTells'. -/
def sealTellsUptoCard : Claim7 := { stood := { row := sealTellsUptoRow, standIns := [], harness := (true, "1ca5a53e2b9e4ad52a75ee871f9391bab19ac872601f4b56698e73f387a1c008"), looks := false }, kinds := [], alts := [], laidByText := true, laidKinds := [.data, .pinned], laidTests := true, laidLooks := .later }
def SealTellsUptoCardSaid : Prop := Claim7.holds Tryd.pinned (.plain (OpenSpec.upto sealTellsSpec)) sealTellsUptoCard
end Rows
end Go.Proofs.YtombochecgjmjaaDoor
