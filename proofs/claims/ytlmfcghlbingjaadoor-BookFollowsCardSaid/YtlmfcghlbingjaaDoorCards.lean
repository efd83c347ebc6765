/-
  DERIVED. GIVEN WITH THE SEED: THE CARDS: each row of YtlmfcghlbingjaaDoorRows.lean that lists a variable, with what it lists TIED to the program's text (the seventh form; the later family's looks); each row that meets fmt, with fmt's text TOLD by the authors' own Lean function (tested against real Go, not proved from fmt's source: count such statements apart). THE CARD IS WHAT COUNTS. Prove the row's statement (the work); the ties are given (YtlmfcghlbingjaaDoorTie.lean); close each card by the builder's one call (the guide's Derived/Test/ToyasCard.lean, 'card_holds'). Laid BY PROGRAM, IN A SANDBOX (cutbox-door.mjs). By AI agents, Wed Nov 11 2026. No macro, syntax, notation, axiom, sorry.
-/
import Derived.Test.YtlmfcghlbingjaaDoorRows
import GoSem.ClaimSeven
namespace Go.Proofs.YtlmfcghlbingjaaDoor
namespace Rows

/-- THE TIED CARD OF 'draymanlaw12.BookSums'. -/
def bookSumsCard : Claim7 := { stood := { row := bookSumsRow, standIns := [], harness := (true, "1ff5d91b77470eca64c4e4cb919c0cf74dc6a8725ea9fb3242d8fe529a29747e"), looks := false }, kinds := [], alts := [], laidByText := true, laidKinds := [.data], laidTests := true, laidLooks := .later }
def BookSumsCardSaid : Prop := Claim7.holds Tryd.pinned (.plain (OpenSpec.ofChange bookSumsSpec)) bookSumsCard

/-- THE TIED CARD OF 'draymanlaw12.BookCuts'. -/
def bookCutsCard : Claim7 := { stood := { row := bookCutsRow, standIns := [], harness := (true, "1ff5d91b77470eca64c4e4cb919c0cf74dc6a8725ea9fb3242d8fe529a29747e"), looks := false }, kinds := [], alts := [], laidByText := true, laidKinds := [.data], laidTests := true, laidLooks := .later }
def BookCutsCardSaid : Prop := Claim7.holds Tryd.pinned (.plain (OpenSpec.ofChange bookCutsSpec)) bookCutsCard

/-- THE TIED CARD OF 'draymanlaw12.BookFollows'. -/
def bookFollowsCard : Claim7 := { stood := { row := bookFollowsRow, standIns := [], harness := (true, "1ff5d91b77470eca64c4e4cb919c0cf74dc6a8725ea9fb3242d8fe529a29747e"), looks := false }, kinds := [], alts := [], laidByText := true, laidKinds := [.data], laidTests := true, laidLooks := .later }
def BookFollowsCardSaid : Prop := Claim7.holds Tryd.pinned (.plain (OpenSpec.ofChange bookFollowsSpec)) bookFollowsCard

/-- THE TIED CARD OF 'draymanlaw12.BookKeeps'. -/
def bookKeepsCard : Claim7 := { stood := { row := bookKeepsRow, standIns := [], harness := (true, "1ff5d91b77470eca64c4e4cb919c0cf74dc6a8725ea9fb3242d8fe529a29747e"), looks := false }, kinds := [], alts := [], laidByText := true, laidKinds := [.data], laidTests := true, laidLooks := .later }
def BookKeepsCardSaid : Prop := Claim7.holds Tryd.pinned (.plain (OpenSpec.ofChange bookKeepsSpec)) bookKeepsCard

/-- THE TIED CARD OF 'draymanlaw12.BookRefuses'. -/
def bookRefusesCard : Claim7 := { stood := { row := bookRefusesRow, standIns := [], harness := (true, "1ff5d91b77470eca64c4e4cb919c0cf74dc6a8725ea9fb3242d8fe529a29747e"), looks := false }, kinds := [], alts := [], laidByText := true, laidKinds := [.data], laidTests := true, laidLooks := .later }
def BookRefusesCardSaid : Prop := Claim7.holds Tryd.pinned (.plain (OpenSpec.ofChange bookRefusesSpec)) bookRefusesCard

/-- THE SECOND FORM's CARD OF 'draymanlaw12.BookSums'. -/
def bookSumsUptoCard : Claim7 := { stood := { row := bookSumsUptoRow, standIns := [], harness := (true, "1ff5d91b77470eca64c4e4cb919c0cf74dc6a8725ea9fb3242d8fe529a29747e"), looks := false }, kinds := [], alts := [], laidByText := true, laidKinds := [.data], laidTests := true, laidLooks := .later }
def BookSumsUptoCardSaid : Prop := Claim7.holds Tryd.pinned (.plain (OpenSpec.upto bookSumsSpec)) bookSumsUptoCard

/-- THE SECOND FORM's CARD OF 'draymanlaw12.BookCuts'. -/
def bookCutsUptoCard : Claim7 := { stood := { row := bookCutsUptoRow, standIns := [], harness := (true, "1ff5d91b77470eca64c4e4cb919c0cf74dc6a8725ea9fb3242d8fe529a29747e"), looks := false }, kinds := [], alts := [], laidByText := true, laidKinds := [.data], laidTests := true, laidLooks := .later }
def BookCutsUptoCardSaid : Prop := Claim7.holds Tryd.pinned (.plain (OpenSpec.upto bookCutsSpec)) bookCutsUptoCard

/-- THE SECOND FORM's CARD OF 'draymanlaw12.BookFollows'. -/
def bookFollowsUptoCard : Claim7 := { stood := { row := bookFollowsUptoRow, standIns := [], harness := (true, "1ff5d91b77470eca64c4e4cb919c0cf74dc6a8725ea9fb3242d8fe529a29747e"), looks := false }, kinds := [], alts := [], laidByText := true, laidKinds := [.data], laidTests := true, laidLooks := .later }
def BookFollowsUptoCardSaid : Prop := Claim7.holds Tryd.pinned (.plain (OpenSpec.upto bookFollowsSpec)) bookFollowsUptoCard

/-- THE SECOND FORM's CARD OF 'draymanlaw12.BookKeeps'. -/
def bookKeepsUptoCard : Claim7 := { stood := { row := bookKeepsUptoRow, standIns := [], harness := (true, "1ff5d91b77470eca64c4e4cb919c0cf74dc6a8725ea9fb3242d8fe529a29747e"), looks := false }, kinds := [], alts := [], laidByText := true, laidKinds := [.data], laidTests := true, laidLooks := .later }
def BookKeepsUptoCardSaid : Prop := Claim7.holds Tryd.pinned (.plain (OpenSpec.upto bookKeepsSpec)) bookKeepsUptoCard

/-- THE SECOND FORM's CARD OF 'draymanlaw12.BookRefuses'. -/
def bookRefusesUptoCard : Claim7 := { stood := { row := bookRefusesUptoRow, standIns := [], harness := (true, "1ff5d91b77470eca64c4e4cb919c0cf74dc6a8725ea9fb3242d8fe529a29747e"), looks := false }, kinds := [], alts := [], laidByText := true, laidKinds := [.data], laidTests := true, laidLooks := .later }
def BookRefusesUptoCardSaid : Prop := Claim7.holds Tryd.pinned (.plain (OpenSpec.upto bookRefusesSpec)) bookRefusesUptoCard
end Rows
end Go.Proofs.YtlmfcghlbingjaaDoor
