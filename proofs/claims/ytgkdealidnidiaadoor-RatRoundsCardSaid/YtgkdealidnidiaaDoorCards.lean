/-
  DERIVED. GIVEN WITH THE SEED: THE CARDS: each row of YtgkdealidnidiaaDoorRows.lean that lists a variable, with what it lists TIED to the program's text (the seventh form; the later family's looks); each row that meets fmt, with fmt's text TOLD by the authors' own Lean function (tested against real Go, not proved from fmt's source: count such statements apart). THE CARD IS WHAT COUNTS. Prove the row's statement (the work); the ties are given (YtgkdealidnidiaaDoorTie.lean); close each card by the builder's one call (the guide's Derived/Test/ToyasCard.lean, 'card_holds'). Laid BY PROGRAM, IN A SANDBOX (cutbox-door.mjs). By AI agents, Wed Nov 11 2026. No macro, syntax, notation, axiom, sorry.
-/
import Derived.Test.YtgkdealidnidiaaDoorRows
import GoSem.ClaimSeven
namespace Go.Proofs.YtgkdealidnidiaaDoor
namespace Rows

/-- THE TIED CARD OF 'chafflaw01.NatReads'. -/
def natReadsCard : Claim7 := { stood := { row := natReadsRow, standIns := [], harness := (true, "4850d8f5747ace67d798f542a61f884eaeffe747ca1d618ff54754aff3c7daf5"), looks := false }, kinds := [], alts := [], laidByText := true, laidKinds := [.data, .data, .data], laidTests := true, laidLooks := .later }
def NatReadsCardSaid : Prop := Claim7.holds Tryd.pinned (.plain (OpenSpec.ofChange natReadsSpec)) natReadsCard

/-- THE TIED CARD OF 'chafflaw01.NatParses'. -/
def natParsesCard : Claim7 := { stood := { row := natParsesRow, standIns := [], harness := (true, "4850d8f5747ace67d798f542a61f884eaeffe747ca1d618ff54754aff3c7daf5"), looks := false }, kinds := [], alts := [], laidByText := true, laidKinds := [.data, .data, .data], laidTests := true, laidLooks := .later }
def NatParsesCardSaid : Prop := Claim7.holds Tryd.pinned (.plain (OpenSpec.ofChange natParsesSpec)) natParsesCard

/-- THE TIED CARD OF 'chafflaw01.NatShifts'. -/
def natShiftsCard : Claim7 := { stood := { row := natShiftsRow, standIns := [], harness := (true, "4850d8f5747ace67d798f542a61f884eaeffe747ca1d618ff54754aff3c7daf5"), looks := false }, kinds := [], alts := [], laidByText := true, laidKinds := [.data, .data, .data], laidTests := true, laidLooks := .later }
def NatShiftsCardSaid : Prop := Claim7.holds Tryd.pinned (.plain (OpenSpec.ofChange natShiftsSpec)) natShiftsCard

/-- THE TIED CARD OF 'chafflaw01.NatSums'. -/
def natSumsCard : Claim7 := { stood := { row := natSumsRow, standIns := [], harness := (true, "4850d8f5747ace67d798f542a61f884eaeffe747ca1d618ff54754aff3c7daf5"), looks := false }, kinds := [], alts := [], laidByText := true, laidKinds := [.data, .data, .data], laidTests := true, laidLooks := .later }
def NatSumsCardSaid : Prop := Claim7.holds Tryd.pinned (.plain (OpenSpec.ofChange natSumsSpec)) natSumsCard

/-- THE TIED CARD OF 'chafflaw01.NatDivides'. -/
def natDividesCard : Claim7 := { stood := { row := natDividesRow, standIns := [], harness := (true, "4850d8f5747ace67d798f542a61f884eaeffe747ca1d618ff54754aff3c7daf5"), looks := false }, kinds := [], alts := [], laidByText := true, laidKinds := [.data, .data, .data], laidTests := true, laidLooks := .later }
def NatDividesCardSaid : Prop := Claim7.holds Tryd.pinned (.plain (OpenSpec.ofChange natDividesSpec)) natDividesCard

/-- THE TIED CARD OF 'chafflaw01.NatLaws'. -/
def natLawsCard : Claim7 := { stood := { row := natLawsRow, standIns := [], harness := (true, "4850d8f5747ace67d798f542a61f884eaeffe747ca1d618ff54754aff3c7daf5"), looks := false }, kinds := [], alts := [], laidByText := true, laidKinds := [.data, .data, .data], laidTests := true, laidLooks := .later }
def NatLawsCardSaid : Prop := Claim7.holds Tryd.pinned (.plain (OpenSpec.ofChange natLawsSpec)) natLawsCard

/-- THE TIED CARD OF 'chafflaw02.RatReads'. -/
def ratReadsCard : Claim7 := { stood := { row := ratReadsRow, standIns := [], harness := (true, "4850d8f5747ace67d798f542a61f884eaeffe747ca1d618ff54754aff3c7daf5"), looks := false }, kinds := [], alts := [], laidByText := true, laidKinds := [.data, .data, .data], laidTests := true, laidLooks := .later }
def RatReadsCardSaid : Prop := Claim7.holds Tryd.pinned (.plain (OpenSpec.ofChange ratReadsSpec)) ratReadsCard

/-- THE TIED CARD OF 'chafflaw02.RatRounds'. -/
def ratRoundsCard : Claim7 := { stood := { row := ratRoundsRow, standIns := [], harness := (true, "4850d8f5747ace67d798f542a61f884eaeffe747ca1d618ff54754aff3c7daf5"), looks := false }, kinds := [], alts := [], laidByText := true, laidKinds := [.data, .data, .data], laidTests := true, laidLooks := .later }
def RatRoundsCardSaid : Prop := Claim7.holds Tryd.pinned (.plain (OpenSpec.ofChange ratRoundsSpec)) ratRoundsCard

/-- THE TIED CARD OF 'chafflaw25.TallyPoints'. -/
def tallyPointsCard : Claim7 := { stood := { row := tallyPointsRow, standIns := [], harness := (true, "4850d8f5747ace67d798f542a61f884eaeffe747ca1d618ff54754aff3c7daf5"), looks := false }, kinds := [], alts := [], laidByText := true, laidKinds := [.data, .data, .data], laidTests := true, laidLooks := .later }
def TallyPointsCardSaid : Prop := Claim7.holds Tryd.pinned (.plain (OpenSpec.ofChange tallyPointsSpec)) tallyPointsCard

/-- THE TIED CARD OF 'chafflaw25.TallyRises'. -/
def tallyRisesCard : Claim7 := { stood := { row := tallyRisesRow, standIns := [], harness := (true, "4850d8f5747ace67d798f542a61f884eaeffe747ca1d618ff54754aff3c7daf5"), looks := false }, kinds := [], alts := [], laidByText := true, laidKinds := [.data, .data, .data], laidTests := true, laidLooks := .later }
def TallyRisesCardSaid : Prop := Claim7.holds Tryd.pinned (.plain (OpenSpec.ofChange tallyRisesSpec)) tallyRisesCard

/-- THE SECOND FORM's CARD OF 'chafflaw01.NatReads'. -/
def natReadsUptoCard : Claim7 := { stood := { row := natReadsUptoRow, standIns := [], harness := (true, "4850d8f5747ace67d798f542a61f884eaeffe747ca1d618ff54754aff3c7daf5"), looks := false }, kinds := [], alts := [], laidByText := true, laidKinds := [.data, .data, .data], laidTests := true, laidLooks := .later }
def NatReadsUptoCardSaid : Prop := Claim7.holds Tryd.pinned (.plain (OpenSpec.upto natReadsSpec)) natReadsUptoCard

/-- THE SECOND FORM's CARD OF 'chafflaw01.NatParses'. -/
def natParsesUptoCard : Claim7 := { stood := { row := natParsesUptoRow, standIns := [], harness := (true, "4850d8f5747ace67d798f542a61f884eaeffe747ca1d618ff54754aff3c7daf5"), looks := false }, kinds := [], alts := [], laidByText := true, laidKinds := [.data, .data, .data], laidTests := true, laidLooks := .later }
def NatParsesUptoCardSaid : Prop := Claim7.holds Tryd.pinned (.plain (OpenSpec.upto natParsesSpec)) natParsesUptoCard

/-- THE SECOND FORM's CARD OF 'chafflaw01.NatShifts'. -/
def natShiftsUptoCard : Claim7 := { stood := { row := natShiftsUptoRow, standIns := [], harness := (true, "4850d8f5747ace67d798f542a61f884eaeffe747ca1d618ff54754aff3c7daf5"), looks := false }, kinds := [], alts := [], laidByText := true, laidKinds := [.data, .data, .data], laidTests := true, laidLooks := .later }
def NatShiftsUptoCardSaid : Prop := Claim7.holds Tryd.pinned (.plain (OpenSpec.upto natShiftsSpec)) natShiftsUptoCard

/-- THE SECOND FORM's CARD OF 'chafflaw01.NatSums'. -/
def natSumsUptoCard : Claim7 := { stood := { row := natSumsUptoRow, standIns := [], harness := (true, "4850d8f5747ace67d798f542a61f884eaeffe747ca1d618ff54754aff3c7daf5"), looks := false }, kinds := [], alts := [], laidByText := true, laidKinds := [.data, .data, .data], laidTests := true, laidLooks := .later }
def NatSumsUptoCardSaid : Prop := Claim7.holds Tryd.pinned (.plain (OpenSpec.upto natSumsSpec)) natSumsUptoCard

/-- THE SECOND FORM's CARD OF 'chafflaw01.NatDivides'. -/
def natDividesUptoCard : Claim7 := { stood := { row := natDividesUptoRow, standIns := [], harness := (true, "4850d8f5747ace67d798f542a61f884eaeffe747ca1d618ff54754aff3c7daf5"), looks := false }, kinds := [], alts := [], laidByText := true, laidKinds := [.data, .data, .data], laidTests := true, laidLooks := .later }
def NatDividesUptoCardSaid : Prop := Claim7.holds Tryd.pinned (.plain (OpenSpec.upto natDividesSpec)) natDividesUptoCard

/-- THE SECOND FORM's CARD OF 'chafflaw01.NatLaws'. -/
def natLawsUptoCard : Claim7 := { stood := { row := natLawsUptoRow, standIns := [], harness := (true, "4850d8f5747ace67d798f542a61f884eaeffe747ca1d618ff54754aff3c7daf5"), looks := false }, kinds := [], alts := [], laidByText := true, laidKinds := [.data, .data, .data], laidTests := true, laidLooks := .later }
def NatLawsUptoCardSaid : Prop := Claim7.holds Tryd.pinned (.plain (OpenSpec.upto natLawsSpec)) natLawsUptoCard

/-- THE SECOND FORM's CARD OF 'chafflaw02.RatReads'. -/
def ratReadsUptoCard : Claim7 := { stood := { row := ratReadsUptoRow, standIns := [], harness := (true, "4850d8f5747ace67d798f542a61f884eaeffe747ca1d618ff54754aff3c7daf5"), looks := false }, kinds := [], alts := [], laidByText := true, laidKinds := [.data, .data, .data], laidTests := true, laidLooks := .later }
def RatReadsUptoCardSaid : Prop := Claim7.holds Tryd.pinned (.plain (OpenSpec.upto ratReadsSpec)) ratReadsUptoCard

/-- THE SECOND FORM's CARD OF 'chafflaw02.RatRounds'. -/
def ratRoundsUptoCard : Claim7 := { stood := { row := ratRoundsUptoRow, standIns := [], harness := (true, "4850d8f5747ace67d798f542a61f884eaeffe747ca1d618ff54754aff3c7daf5"), looks := false }, kinds := [], alts := [], laidByText := true, laidKinds := [.data, .data, .data], laidTests := true, laidLooks := .later }
def RatRoundsUptoCardSaid : Prop := Claim7.holds Tryd.pinned (.plain (OpenSpec.upto ratRoundsSpec)) ratRoundsUptoCard

/-- THE SECOND FORM's CARD OF 'chafflaw25.TallyPoints'. -/
def tallyPointsUptoCard : Claim7 := { stood := { row := tallyPointsUptoRow, standIns := [], harness := (true, "4850d8f5747ace67d798f542a61f884eaeffe747ca1d618ff54754aff3c7daf5"), looks := false }, kinds := [], alts := [], laidByText := true, laidKinds := [.data, .data, .data], laidTests := true, laidLooks := .later }
def TallyPointsUptoCardSaid : Prop := Claim7.holds Tryd.pinned (.plain (OpenSpec.upto tallyPointsSpec)) tallyPointsUptoCard

/-- THE SECOND FORM's CARD OF 'chafflaw25.TallyRises'. -/
def tallyRisesUptoCard : Claim7 := { stood := { row := tallyRisesUptoRow, standIns := [], harness := (true, "4850d8f5747ace67d798f542a61f884eaeffe747ca1d618ff54754aff3c7daf5"), looks := false }, kinds := [], alts := [], laidByText := true, laidKinds := [.data, .data, .data], laidTests := true, laidLooks := .later }
def TallyRisesUptoCardSaid : Prop := Claim7.holds Tryd.pinned (.plain (OpenSpec.upto tallyRisesSpec)) tallyRisesUptoCard
end Rows
end Go.Proofs.YtgkdealidnidiaaDoor
