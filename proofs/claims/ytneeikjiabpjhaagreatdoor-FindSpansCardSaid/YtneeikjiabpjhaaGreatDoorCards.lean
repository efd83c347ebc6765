/-
  DERIVED. GIVEN WITH THE SEED: THE CARDS: each row of YtneeikjiabpjhaaGreatDoorRows.lean that lists a variable, with what it lists TIED to the program's text (the seventh form; the later family's looks); each row that meets fmt, with fmt's text TOLD by the authors' own Lean function (tested against real Go, not proved from fmt's source: count such statements apart). THE CARD IS WHAT COUNTS. Prove the row's statement (the work); the ties are given (YtneeikjiabpjhaaGreatDoorTie.lean); close each card by the builder's one call (the guide's Derived/Test/ToyasCard.lean, 'card_holds'). Laid BY PROGRAM, IN A SANDBOX (cutbox-door.mjs). By AI agents, Wed Nov 11 2026. No macro, syntax, notation, axiom, sorry.
-/
import Derived.Test.YtneeikjiabpjhaaGreatDoorRows
import GoSem.ClaimSeven
namespace Go.Proofs.YtneeikjiabpjhaaGreatDoor
namespace Rows

/-- THE TIED CARD OF 'draymanlaw25.FindAnswers'. -/
def findAnswersCard : Claim7 := { stood := { row := findAnswersRow, standIns := [], harness := (true, "bde683c892470bb78974b29ae99a2e87476c743d0a8be6a83d20c9bf0711d93f"), looks := false }, kinds := [], alts := [], laidByText := true, laidKinds := [.data], laidTests := true, laidLooks := .later }
def FindAnswersCardSaid : Prop := Claim7.holds Tryz.pinned (.plain (OpenSpec.ofChange findAnswersSpec)) findAnswersCard

/-- THE TIED CARD OF 'draymanlaw25.FindSpans'. -/
def findSpansCard : Claim7 := { stood := { row := findSpansRow, standIns := [], harness := (true, "bde683c892470bb78974b29ae99a2e87476c743d0a8be6a83d20c9bf0711d93f"), looks := false }, kinds := [], alts := [], laidByText := true, laidKinds := [.data], laidTests := true, laidLooks := .later }
def FindSpansCardSaid : Prop := Claim7.holds Tryz.pinned (.plain (OpenSpec.ofChange findSpansSpec)) findSpansCard

/-- THE SECOND FORM's CARD OF 'draymanlaw25.FindAnswers'. -/
def findAnswersUptoCard : Claim7 := { stood := { row := findAnswersUptoRow, standIns := [], harness := (true, "bde683c892470bb78974b29ae99a2e87476c743d0a8be6a83d20c9bf0711d93f"), looks := false }, kinds := [], alts := [], laidByText := true, laidKinds := [.data], laidTests := true, laidLooks := .later }
def FindAnswersUptoCardSaid : Prop := Claim7.holds Tryz.pinned (.plain (OpenSpec.upto findAnswersSpec)) findAnswersUptoCard

/-- THE SECOND FORM's CARD OF 'draymanlaw25.FindSpans'. -/
def findSpansUptoCard : Claim7 := { stood := { row := findSpansUptoRow, standIns := [], harness := (true, "bde683c892470bb78974b29ae99a2e87476c743d0a8be6a83d20c9bf0711d93f"), looks := false }, kinds := [], alts := [], laidByText := true, laidKinds := [.data], laidTests := true, laidLooks := .later }
def FindSpansUptoCardSaid : Prop := Claim7.holds Tryz.pinned (.plain (OpenSpec.upto findSpansSpec)) findSpansUptoCard
end Rows
end Go.Proofs.YtneeikjiabpjhaaGreatDoor
