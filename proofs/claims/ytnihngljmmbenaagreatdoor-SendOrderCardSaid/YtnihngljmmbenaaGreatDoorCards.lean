/-
  DERIVED. GIVEN WITH THE SEED: THE CARDS: each row of YtnihngljmmbenaaGreatDoorRows.lean that lists a variable, with what it lists TIED to the program's text (the seventh form; the later family's looks); each row that meets fmt, with fmt's text TOLD by the authors' own Lean function (tested against real Go, not proved from fmt's source: count such statements apart). THE CARD IS WHAT COUNTS. Prove the row's statement (the work); the ties are given (YtnihngljmmbenaaGreatDoorTie.lean); close each card by the builder's one call (the guide's Derived/Test/ToyasCard.lean, 'card_holds'). Laid BY PROGRAM, IN A SANDBOX (cutbox-door.mjs). By AI agents, Wed Nov 11 2026. No macro, syntax, notation, axiom, sorry.
-/
import Derived.Test.YtnihngljmmbenaaGreatDoorRows
import GoSem.ClaimSeven
namespace Go.Proofs.YtnihngljmmbenaaGreatDoor
namespace Rows

/-- THE TIED CARD OF 'draymanlaw15.SendRights'. -/
def sendRightsCard : Claim7 := { stood := { row := sendRightsRow, standIns := [], harness := (true, "664c90784a1b1cef9ed47254c2ff32e83ce9b0f42630b558f17d85c7f3174de5"), looks := false }, kinds := [], alts := [], laidByText := true, laidKinds := [.data], laidTests := true, laidLooks := .later }
def SendRightsCardSaid : Prop := Claim7.holds Tryz.pinned (.plain (OpenSpec.ofChange sendRightsSpec)) sendRightsCard

/-- THE TIED CARD OF 'draymanlaw15.SendNacks'. -/
def sendNacksCard : Claim7 := { stood := { row := sendNacksRow, standIns := [], harness := (true, "664c90784a1b1cef9ed47254c2ff32e83ce9b0f42630b558f17d85c7f3174de5"), looks := false }, kinds := [], alts := [], laidByText := true, laidKinds := [.data], laidTests := true, laidLooks := .later }
def SendNacksCardSaid : Prop := Claim7.holds Tryz.pinned (.plain (OpenSpec.ofChange sendNacksSpec)) sendNacksCard

/-- THE TIED CARD OF 'draymanlaw15.SendTells'. -/
def sendTellsCard : Claim7 := { stood := { row := sendTellsRow, standIns := [], harness := (true, "664c90784a1b1cef9ed47254c2ff32e83ce9b0f42630b558f17d85c7f3174de5"), looks := false }, kinds := [], alts := [], laidByText := true, laidKinds := [.data], laidTests := true, laidLooks := .later }
def SendTellsCardSaid : Prop := Claim7.holds Tryz.pinned (.plain (OpenSpec.ofChange sendTellsSpec)) sendTellsCard

/-- THE TIED CARD OF 'draymanlaw15.SendAgain'. -/
def sendAgainCard : Claim7 := { stood := { row := sendAgainRow, standIns := [], harness := (true, "664c90784a1b1cef9ed47254c2ff32e83ce9b0f42630b558f17d85c7f3174de5"), looks := false }, kinds := [], alts := [], laidByText := true, laidKinds := [.data], laidTests := true, laidLooks := .later }
def SendAgainCardSaid : Prop := Claim7.holds Tryz.pinned (.plain (OpenSpec.ofChange sendAgainSpec)) sendAgainCard

/-- THE TIED CARD OF 'draymanlaw15.SendOrder'. -/
def sendOrderCard : Claim7 := { stood := { row := sendOrderRow, standIns := [], harness := (true, "664c90784a1b1cef9ed47254c2ff32e83ce9b0f42630b558f17d85c7f3174de5"), looks := false }, kinds := [], alts := [], laidByText := true, laidKinds := [.data], laidTests := true, laidLooks := .later }
def SendOrderCardSaid : Prop := Claim7.holds Tryz.pinned (.plain (OpenSpec.ofChange sendOrderSpec)) sendOrderCard

/-- THE TIED CARD OF 'draymanlaw15.SendDoes'. -/
def sendDoesCard : Claim7 := { stood := { row := sendDoesRow, standIns := [], harness := (true, "664c90784a1b1cef9ed47254c2ff32e83ce9b0f42630b558f17d85c7f3174de5"), looks := false }, kinds := [], alts := [], laidByText := true, laidKinds := [.data], laidTests := true, laidLooks := .later }
def SendDoesCardSaid : Prop := Claim7.holds Tryz.pinned (.plain (OpenSpec.ofChange sendDoesSpec)) sendDoesCard

/-- THE SECOND FORM's CARD OF 'draymanlaw15.SendRights'. -/
def sendRightsUptoCard : Claim7 := { stood := { row := sendRightsUptoRow, standIns := [], harness := (true, "664c90784a1b1cef9ed47254c2ff32e83ce9b0f42630b558f17d85c7f3174de5"), looks := false }, kinds := [], alts := [], laidByText := true, laidKinds := [.data], laidTests := true, laidLooks := .later }
def SendRightsUptoCardSaid : Prop := Claim7.holds Tryz.pinned (.plain (OpenSpec.upto sendRightsSpec)) sendRightsUptoCard

/-- THE SECOND FORM's CARD OF 'draymanlaw15.SendNacks'. -/
def sendNacksUptoCard : Claim7 := { stood := { row := sendNacksUptoRow, standIns := [], harness := (true, "664c90784a1b1cef9ed47254c2ff32e83ce9b0f42630b558f17d85c7f3174de5"), looks := false }, kinds := [], alts := [], laidByText := true, laidKinds := [.data], laidTests := true, laidLooks := .later }
def SendNacksUptoCardSaid : Prop := Claim7.holds Tryz.pinned (.plain (OpenSpec.upto sendNacksSpec)) sendNacksUptoCard

/-- THE SECOND FORM's CARD OF 'draymanlaw15.SendTells'. -/
def sendTellsUptoCard : Claim7 := { stood := { row := sendTellsUptoRow, standIns := [], harness := (true, "664c90784a1b1cef9ed47254c2ff32e83ce9b0f42630b558f17d85c7f3174de5"), looks := false }, kinds := [], alts := [], laidByText := true, laidKinds := [.data], laidTests := true, laidLooks := .later }
def SendTellsUptoCardSaid : Prop := Claim7.holds Tryz.pinned (.plain (OpenSpec.upto sendTellsSpec)) sendTellsUptoCard

/-- THE SECOND FORM's CARD OF 'draymanlaw15.SendAgain'. -/
def sendAgainUptoCard : Claim7 := { stood := { row := sendAgainUptoRow, standIns := [], harness := (true, "664c90784a1b1cef9ed47254c2ff32e83ce9b0f42630b558f17d85c7f3174de5"), looks := false }, kinds := [], alts := [], laidByText := true, laidKinds := [.data], laidTests := true, laidLooks := .later }
def SendAgainUptoCardSaid : Prop := Claim7.holds Tryz.pinned (.plain (OpenSpec.upto sendAgainSpec)) sendAgainUptoCard

/-- THE SECOND FORM's CARD OF 'draymanlaw15.SendOrder'. -/
def sendOrderUptoCard : Claim7 := { stood := { row := sendOrderUptoRow, standIns := [], harness := (true, "664c90784a1b1cef9ed47254c2ff32e83ce9b0f42630b558f17d85c7f3174de5"), looks := false }, kinds := [], alts := [], laidByText := true, laidKinds := [.data], laidTests := true, laidLooks := .later }
def SendOrderUptoCardSaid : Prop := Claim7.holds Tryz.pinned (.plain (OpenSpec.upto sendOrderSpec)) sendOrderUptoCard

/-- THE SECOND FORM's CARD OF 'draymanlaw15.SendDoes'. -/
def sendDoesUptoCard : Claim7 := { stood := { row := sendDoesUptoRow, standIns := [], harness := (true, "664c90784a1b1cef9ed47254c2ff32e83ce9b0f42630b558f17d85c7f3174de5"), looks := false }, kinds := [], alts := [], laidByText := true, laidKinds := [.data], laidTests := true, laidLooks := .later }
def SendDoesUptoCardSaid : Prop := Claim7.holds Tryz.pinned (.plain (OpenSpec.upto sendDoesSpec)) sendDoesUptoCard
end Rows
end Go.Proofs.YtnihngljmmbenaaGreatDoor
