/-
  DERIVED. GIVEN WITH THE SEED: THE CARDS: each row of YtnffcckhdedhpaaGreatDoorRows.lean that lists a variable, with what it lists TIED to the program's text (the seventh form; the later family's looks); each row that meets fmt, with fmt's text TOLD by the authors' own Lean function (tested against real Go, not proved from fmt's source: count such statements apart). THE CARD IS WHAT COUNTS. Prove the row's statement (the work); the ties are given (YtnffcckhdedhpaaGreatDoorTie.lean); close each card by the builder's one call (the guide's Derived/Test/ToyasCard.lean, 'card_holds'). Laid BY PROGRAM, IN A SANDBOX (cutbox-door.mjs). By AI agents, Wed Nov 11 2026. No macro, syntax, notation, axiom, sorry.
-/
import Derived.Test.YtnffcckhdedhpaaGreatDoorRows
import GoSem.ClaimSeven
namespace Go.Proofs.YtnffcckhdedhpaaGreatDoor
namespace Rows

/-- THE TIED CARD OF 'draymanlaw26.DigestLeaves'. -/
def digestLeavesCard : Claim7 := { stood := { row := digestLeavesRow, standIns := [], harness := (true, "53ac2f259bccba80748942e3b7a5415980b959dff4850bb03b9e442ccb842984"), looks := false }, kinds := [], alts := [], laidByText := true, laidKinds := [.data], laidTests := true, laidLooks := .later }
def DigestLeavesCardSaid : Prop := Claim7.holds Tryz.pinned (.plain (OpenSpec.ofChange digestLeavesSpec)) digestLeavesCard

/-- THE TIED CARD OF 'draymanlaw26.DigestMends'. -/
def digestMendsCard : Claim7 := { stood := { row := digestMendsRow, standIns := [], harness := (true, "53ac2f259bccba80748942e3b7a5415980b959dff4850bb03b9e442ccb842984"), looks := false }, kinds := [], alts := [], laidByText := true, laidKinds := [.data], laidTests := true, laidLooks := .later }
def DigestMendsCardSaid : Prop := Claim7.holds Tryz.pinned (.plain (OpenSpec.ofChange digestMendsSpec)) digestMendsCard

/-- THE SECOND FORM's CARD OF 'draymanlaw26.DigestLeaves'. -/
def digestLeavesUptoCard : Claim7 := { stood := { row := digestLeavesUptoRow, standIns := [], harness := (true, "53ac2f259bccba80748942e3b7a5415980b959dff4850bb03b9e442ccb842984"), looks := false }, kinds := [], alts := [], laidByText := true, laidKinds := [.data], laidTests := true, laidLooks := .later }
def DigestLeavesUptoCardSaid : Prop := Claim7.holds Tryz.pinned (.plain (OpenSpec.upto digestLeavesSpec)) digestLeavesUptoCard

/-- THE SECOND FORM's CARD OF 'draymanlaw26.DigestMends'. -/
def digestMendsUptoCard : Claim7 := { stood := { row := digestMendsUptoRow, standIns := [], harness := (true, "53ac2f259bccba80748942e3b7a5415980b959dff4850bb03b9e442ccb842984"), looks := false }, kinds := [], alts := [], laidByText := true, laidKinds := [.data], laidTests := true, laidLooks := .later }
def DigestMendsUptoCardSaid : Prop := Claim7.holds Tryz.pinned (.plain (OpenSpec.upto digestMendsSpec)) digestMendsUptoCard
end Rows
end Go.Proofs.YtnffcckhdedhpaaGreatDoor
