/-
  DERIVED. GIVEN WITH THE SEED: THE CARDS: each row of YtoolooffpphmdaaGreatDoorRows.lean that lists a variable, with what it lists TIED to the program's text (the seventh form; the later family's looks); each row that meets fmt, with fmt's text TOLD by the authors' own Lean function (tested against real Go, not proved from fmt's source: count such statements apart). THE CARD IS WHAT COUNTS. Prove the row's statement (the work); the ties are given (YtoolooffpphmdaaGreatDoorTie.lean); close each card by the builder's one call (the guide's Derived/Test/ToyasCard.lean, 'card_holds'). Laid BY PROGRAM, IN A SANDBOX (cutbox-door.mjs). By AI agents, Wed Nov 11 2026. No macro, syntax, notation, axiom, sorry.
-/
import Derived.Test.YtoolooffpphmdaaGreatDoorRows
import GoSem.ClaimSeven
namespace Go.Proofs.YtoolooffpphmdaaGreatDoor
namespace Rows

/-- THE TIED CARD OF 'draymanlaw25.FindAnswers'. -/
def findAnswersCard : Claim7 := { stood := { row := findAnswersRow, standIns := [], harness := (true, "823e6a777597d72df7a8a47b5592f145cb9361aeba9e7900ae63388a1c13c791"), looks := false }, kinds := [], alts := [], laidByText := true, laidKinds := [.data], laidTests := true, laidLooks := .later }
def FindAnswersCardSaid : Prop := Claim7.holds Tryz.pinned (.plain (OpenSpec.ofChange findAnswersSpec)) findAnswersCard

/-- THE TIED CARD OF 'draymanlaw26.DigestLeaves'. -/
def digestLeavesCard : Claim7 := { stood := { row := digestLeavesRow, standIns := [], harness := (true, "823e6a777597d72df7a8a47b5592f145cb9361aeba9e7900ae63388a1c13c791"), looks := false }, kinds := [], alts := [], laidByText := true, laidKinds := [.data], laidTests := true, laidLooks := .later }
def DigestLeavesCardSaid : Prop := Claim7.holds Tryz.pinned (.plain (OpenSpec.ofChange digestLeavesSpec)) digestLeavesCard

/-- THE TIED CARD OF 'draymanlaw26.DigestMends'. -/
def digestMendsCard : Claim7 := { stood := { row := digestMendsRow, standIns := [], harness := (true, "823e6a777597d72df7a8a47b5592f145cb9361aeba9e7900ae63388a1c13c791"), looks := false }, kinds := [], alts := [], laidByText := true, laidKinds := [.data], laidTests := true, laidLooks := .later }
def DigestMendsCardSaid : Prop := Claim7.holds Tryz.pinned (.plain (OpenSpec.ofChange digestMendsSpec)) digestMendsCard

/-- THE SECOND FORM's CARD OF 'draymanlaw25.FindAnswers'. -/
def findAnswersUptoCard : Claim7 := { stood := { row := findAnswersUptoRow, standIns := [], harness := (true, "823e6a777597d72df7a8a47b5592f145cb9361aeba9e7900ae63388a1c13c791"), looks := false }, kinds := [], alts := [], laidByText := true, laidKinds := [.data], laidTests := true, laidLooks := .later }
def FindAnswersUptoCardSaid : Prop := Claim7.holds Tryz.pinned (.plain (OpenSpec.upto findAnswersSpec)) findAnswersUptoCard

/-- THE SECOND FORM's CARD OF 'draymanlaw26.DigestLeaves'. -/
def digestLeavesUptoCard : Claim7 := { stood := { row := digestLeavesUptoRow, standIns := [], harness := (true, "823e6a777597d72df7a8a47b5592f145cb9361aeba9e7900ae63388a1c13c791"), looks := false }, kinds := [], alts := [], laidByText := true, laidKinds := [.data], laidTests := true, laidLooks := .later }
def DigestLeavesUptoCardSaid : Prop := Claim7.holds Tryz.pinned (.plain (OpenSpec.upto digestLeavesSpec)) digestLeavesUptoCard

/-- THE SECOND FORM's CARD OF 'draymanlaw26.DigestMends'. -/
def digestMendsUptoCard : Claim7 := { stood := { row := digestMendsUptoRow, standIns := [], harness := (true, "823e6a777597d72df7a8a47b5592f145cb9361aeba9e7900ae63388a1c13c791"), looks := false }, kinds := [], alts := [], laidByText := true, laidKinds := [.data], laidTests := true, laidLooks := .later }
def DigestMendsUptoCardSaid : Prop := Claim7.holds Tryz.pinned (.plain (OpenSpec.upto digestMendsSpec)) digestMendsUptoCard
end Rows
end Go.Proofs.YtoolooffpphmdaaGreatDoor
