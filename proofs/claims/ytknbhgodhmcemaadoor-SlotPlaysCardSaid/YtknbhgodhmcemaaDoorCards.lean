/-
  DERIVED. GIVEN WITH THE SEED: THE CARDS: each row of YtknbhgodhmcemaaDoorRows.lean that lists a variable, with what it lists TIED to the program's text (the seventh form; the later family's looks); each row that meets fmt, with fmt's text TOLD by the authors' own Lean function (tested against real Go, not proved from fmt's source: count such statements apart). THE CARD IS WHAT COUNTS. Prove the row's statement (the work); the ties are given (YtknbhgodhmcemaaDoorTie.lean); close each card by the builder's one call (the guide's Derived/Test/ToyasCard.lean, 'card_holds'). Laid BY PROGRAM, IN A SANDBOX (cutbox-door.mjs). By AI agents, Wed Nov 11 2026. No macro, syntax, notation, axiom, sorry.
-/
import Derived.Test.YtknbhgodhmcemaaDoorRows
import GoSem.ClaimSeven
namespace Go.Proofs.YtknbhgodhmcemaaDoor
namespace Rows

/-- THE TIED CARD OF 'chafflaw14.LogKeeps'. -/
def logKeepsCard : Claim7 := { stood := { row := logKeepsRow, standIns := [], harness := (true, "814c857380535ff8aefc00f48f9021364d54acff1c2c1f07879ba30a4e02604c"), looks := false }, kinds := [], alts := [], laidByText := true, laidKinds := [.data, .pinned], laidTests := true, laidLooks := .later }
def LogKeepsCardSaid : Prop := Claim7.holds Tryd.pinned (.plain (OpenSpec.ofChange logKeepsSpec)) logKeepsCard

/-- THE TIED CARD OF 'chafflaw15.SlotTears'. -/
def slotTearsCard : Claim7 := { stood := { row := slotTearsRow, standIns := [], harness := (true, "814c857380535ff8aefc00f48f9021364d54acff1c2c1f07879ba30a4e02604c"), looks := false }, kinds := [], alts := [], laidByText := true, laidKinds := [.data, .pinned], laidTests := true, laidLooks := .later }
def SlotTearsCardSaid : Prop := Claim7.holds Tryd.pinned (.plain (OpenSpec.ofChange slotTearsSpec)) slotTearsCard

/-- THE TIED CARD OF 'chafflaw15.SlotBack'. -/
def slotBackCard : Claim7 := { stood := { row := slotBackRow, standIns := [], harness := (true, "814c857380535ff8aefc00f48f9021364d54acff1c2c1f07879ba30a4e02604c"), looks := false }, kinds := [], alts := [], laidByText := true, laidKinds := [.data, .pinned], laidTests := true, laidLooks := .later }
def SlotBackCardSaid : Prop := Claim7.holds Tryd.pinned (.plain (OpenSpec.ofChange slotBackSpec)) slotBackCard

/-- THE TIED CARD OF 'chafflaw15.SlotPlays'. -/
def slotPlaysCard : Claim7 := { stood := { row := slotPlaysRow, standIns := [], harness := (true, "814c857380535ff8aefc00f48f9021364d54acff1c2c1f07879ba30a4e02604c"), looks := false }, kinds := [], alts := [], laidByText := true, laidKinds := [.data, .pinned], laidTests := true, laidLooks := .later }
def SlotPlaysCardSaid : Prop := Claim7.holds Tryd.pinned (.plain (OpenSpec.ofChange slotPlaysSpec)) slotPlaysCard

/-- THE TIED CARD OF 'chafflaw16.VaultKeeps'. -/
def vaultKeepsCard : Claim7 := { stood := { row := vaultKeepsRow, standIns := [], harness := (true, "814c857380535ff8aefc00f48f9021364d54acff1c2c1f07879ba30a4e02604c"), looks := false }, kinds := [], alts := [], laidByText := true, laidKinds := [.data, .pinned], laidTests := true, laidLooks := .later }
def VaultKeepsCardSaid : Prop := Claim7.holds Tryd.pinned (.plain (OpenSpec.ofChange vaultKeepsSpec)) vaultKeepsCard

/-- THE TIED CARD OF 'chafflaw16.VaultRots'. -/
def vaultRotsCard : Claim7 := { stood := { row := vaultRotsRow, standIns := [], harness := (true, "814c857380535ff8aefc00f48f9021364d54acff1c2c1f07879ba30a4e02604c"), looks := false }, kinds := [], alts := [], laidByText := true, laidKinds := [.data, .pinned], laidTests := true, laidLooks := .later }
def VaultRotsCardSaid : Prop := Claim7.holds Tryd.pinned (.plain (OpenSpec.ofChange vaultRotsSpec)) vaultRotsCard

/-- THE SECOND FORM's CARD OF 'chafflaw14.LogKeeps'. -/
def logKeepsUptoCard : Claim7 := { stood := { row := logKeepsUptoRow, standIns := [], harness := (true, "814c857380535ff8aefc00f48f9021364d54acff1c2c1f07879ba30a4e02604c"), looks := false }, kinds := [], alts := [], laidByText := true, laidKinds := [.data, .pinned], laidTests := true, laidLooks := .later }
def LogKeepsUptoCardSaid : Prop := Claim7.holds Tryd.pinned (.plain (OpenSpec.upto logKeepsSpec)) logKeepsUptoCard

/-- THE SECOND FORM's CARD OF 'chafflaw15.SlotTears'. -/
def slotTearsUptoCard : Claim7 := { stood := { row := slotTearsUptoRow, standIns := [], harness := (true, "814c857380535ff8aefc00f48f9021364d54acff1c2c1f07879ba30a4e02604c"), looks := false }, kinds := [], alts := [], laidByText := true, laidKinds := [.data, .pinned], laidTests := true, laidLooks := .later }
def SlotTearsUptoCardSaid : Prop := Claim7.holds Tryd.pinned (.plain (OpenSpec.upto slotTearsSpec)) slotTearsUptoCard

/-- THE SECOND FORM's CARD OF 'chafflaw15.SlotBack'. -/
def slotBackUptoCard : Claim7 := { stood := { row := slotBackUptoRow, standIns := [], harness := (true, "814c857380535ff8aefc00f48f9021364d54acff1c2c1f07879ba30a4e02604c"), looks := false }, kinds := [], alts := [], laidByText := true, laidKinds := [.data, .pinned], laidTests := true, laidLooks := .later }
def SlotBackUptoCardSaid : Prop := Claim7.holds Tryd.pinned (.plain (OpenSpec.upto slotBackSpec)) slotBackUptoCard

/-- THE SECOND FORM's CARD OF 'chafflaw15.SlotPlays'. -/
def slotPlaysUptoCard : Claim7 := { stood := { row := slotPlaysUptoRow, standIns := [], harness := (true, "814c857380535ff8aefc00f48f9021364d54acff1c2c1f07879ba30a4e02604c"), looks := false }, kinds := [], alts := [], laidByText := true, laidKinds := [.data, .pinned], laidTests := true, laidLooks := .later }
def SlotPlaysUptoCardSaid : Prop := Claim7.holds Tryd.pinned (.plain (OpenSpec.upto slotPlaysSpec)) slotPlaysUptoCard

/-- THE SECOND FORM's CARD OF 'chafflaw16.VaultKeeps'. -/
def vaultKeepsUptoCard : Claim7 := { stood := { row := vaultKeepsUptoRow, standIns := [], harness := (true, "814c857380535ff8aefc00f48f9021364d54acff1c2c1f07879ba30a4e02604c"), looks := false }, kinds := [], alts := [], laidByText := true, laidKinds := [.data, .pinned], laidTests := true, laidLooks := .later }
def VaultKeepsUptoCardSaid : Prop := Claim7.holds Tryd.pinned (.plain (OpenSpec.upto vaultKeepsSpec)) vaultKeepsUptoCard

/-- THE SECOND FORM's CARD OF 'chafflaw16.VaultRots'. -/
def vaultRotsUptoCard : Claim7 := { stood := { row := vaultRotsUptoRow, standIns := [], harness := (true, "814c857380535ff8aefc00f48f9021364d54acff1c2c1f07879ba30a4e02604c"), looks := false }, kinds := [], alts := [], laidByText := true, laidKinds := [.data, .pinned], laidTests := true, laidLooks := .later }
def VaultRotsUptoCardSaid : Prop := Claim7.holds Tryd.pinned (.plain (OpenSpec.upto vaultRotsSpec)) vaultRotsUptoCard
end Rows
end Go.Proofs.YtknbhgodhmcemaaDoor
