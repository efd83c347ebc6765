/-
  DERIVED. GIVEN WITH THE SEED: THE CARDS: each row of YtneeikjiabpjhaaDoorRows.lean that lists a variable, with what it lists TIED to the program's text (the seventh form; the later family's looks); each row that meets fmt, with fmt's text TOLD by the authors' own Lean function (tested against real Go, not proved from fmt's source: count such statements apart). THE CARD IS WHAT COUNTS. Prove the row's statement (the work); the ties are given (YtneeikjiabpjhaaDoorTie.lean); close each card by the builder's one call (the guide's Derived/Test/ToyasCard.lean, 'card_holds'). Laid BY PROGRAM, IN A SANDBOX (cutbox-door.mjs). By AI agents, Wed Nov 11 2026. No macro, syntax, notation, axiom, sorry.
-/
import Derived.Test.YtneeikjiabpjhaaDoorRows
import GoSem.ClaimSeven
namespace Go.Proofs.YtneeikjiabpjhaaDoor
namespace Rows

/-- THE TIED CARD OF 'draymanlaw25.FindBetween'. -/
def findBetweenCard : Claim7 := { stood := { row := findBetweenRow, standIns := [], harness := (true, "6fa32bf990727e7e3da6b70b666c48c8f8a67548631f8df3e5a31aac5cf828fd"), looks := false }, kinds := [], alts := [], laidByText := true, laidKinds := [.data], laidTests := true, laidLooks := .later }
def FindBetweenCardSaid : Prop := Claim7.holds Tryd.pinned (.plain (OpenSpec.ofChange findBetweenSpec)) findBetweenCard

/-- THE TIED CARD OF 'draymanlaw25.FindLast'. -/
def findLastCard : Claim7 := { stood := { row := findLastRow, standIns := [], harness := (true, "6fa32bf990727e7e3da6b70b666c48c8f8a67548631f8df3e5a31aac5cf828fd"), looks := false }, kinds := [], alts := [], laidByText := true, laidKinds := [.data], laidTests := true, laidLooks := .later }
def FindLastCardSaid : Prop := Claim7.holds Tryd.pinned (.plain (OpenSpec.ofChange findLastSpec)) findLastCard

/-- THE TIED CARD OF 'draymanlaw25.FindSteps'. -/
def findStepsCard : Claim7 := { stood := { row := findStepsRow, standIns := [], harness := (true, "6fa32bf990727e7e3da6b70b666c48c8f8a67548631f8df3e5a31aac5cf828fd"), looks := false }, kinds := [], alts := [], laidByText := true, laidKinds := [.data], laidTests := true, laidLooks := .later }
def FindStepsCardSaid : Prop := Claim7.holds Tryd.pinned (.plain (OpenSpec.ofChange findStepsSpec)) findStepsCard

/-- THE SECOND FORM's CARD OF 'draymanlaw25.FindBetween'. -/
def findBetweenUptoCard : Claim7 := { stood := { row := findBetweenUptoRow, standIns := [], harness := (true, "6fa32bf990727e7e3da6b70b666c48c8f8a67548631f8df3e5a31aac5cf828fd"), looks := false }, kinds := [], alts := [], laidByText := true, laidKinds := [.data], laidTests := true, laidLooks := .later }
def FindBetweenUptoCardSaid : Prop := Claim7.holds Tryd.pinned (.plain (OpenSpec.upto findBetweenSpec)) findBetweenUptoCard

/-- THE SECOND FORM's CARD OF 'draymanlaw25.FindLast'. -/
def findLastUptoCard : Claim7 := { stood := { row := findLastUptoRow, standIns := [], harness := (true, "6fa32bf990727e7e3da6b70b666c48c8f8a67548631f8df3e5a31aac5cf828fd"), looks := false }, kinds := [], alts := [], laidByText := true, laidKinds := [.data], laidTests := true, laidLooks := .later }
def FindLastUptoCardSaid : Prop := Claim7.holds Tryd.pinned (.plain (OpenSpec.upto findLastSpec)) findLastUptoCard

/-- THE SECOND FORM's CARD OF 'draymanlaw25.FindSteps'. -/
def findStepsUptoCard : Claim7 := { stood := { row := findStepsUptoRow, standIns := [], harness := (true, "6fa32bf990727e7e3da6b70b666c48c8f8a67548631f8df3e5a31aac5cf828fd"), looks := false }, kinds := [], alts := [], laidByText := true, laidKinds := [.data], laidTests := true, laidLooks := .later }
def FindStepsUptoCardSaid : Prop := Claim7.holds Tryd.pinned (.plain (OpenSpec.upto findStepsSpec)) findStepsUptoCard
end Rows
end Go.Proofs.YtneeikjiabpjhaaDoor
