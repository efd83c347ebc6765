/-
  DERIVED. GIVEN WITH THE SEED: THE CARDS: each row of YtojkoijdndinoaaDoorRows.lean that lists a variable, with what it lists TIED to the program's text (the seventh form; the later family's looks); each row that meets fmt, with fmt's text TOLD by the authors' own Lean function (tested against real Go, not proved from fmt's source: count such statements apart). THE CARD IS WHAT COUNTS. Prove the row's statement (the work); the ties are given (YtojkoijdndinoaaDoorTie.lean); close each card by the builder's one call (the guide's Derived/Test/ToyasCard.lean, 'card_holds'). Laid BY PROGRAM, IN A SANDBOX (cutbox-door.mjs). By AI agents, Wed Nov 11 2026. No macro, syntax, notation, axiom, sorry.
-/
import Derived.Test.YtojkoijdndinoaaDoorRows
import GoSem.ClaimSeven
namespace Go.Proofs.YtojkoijdndinoaaDoor
namespace Rows

/-- THE TIED CARD OF 'draymanlaw12.BookKeeps'. -/
def bookKeepsCard : Claim7 := { stood := { row := bookKeepsRow, standIns := [], harness := (true, "b2e6b684095f1c38d52e57e59169878bb2802721d5c9142278e5d5a0190c0c47"), looks := false }, kinds := [], alts := [], laidByText := true, laidKinds := [.data], laidTests := true, laidLooks := .later }
def BookKeepsCardSaid : Prop := Claim7.holds Tryd.pinned (.plain (OpenSpec.ofChange bookKeepsSpec)) bookKeepsCard

/-- THE TIED CARD OF 'draymanlaw12.BookRefuses'. -/
def bookRefusesCard : Claim7 := { stood := { row := bookRefusesRow, standIns := [], harness := (true, "b2e6b684095f1c38d52e57e59169878bb2802721d5c9142278e5d5a0190c0c47"), looks := false }, kinds := [], alts := [], laidByText := true, laidKinds := [.data], laidTests := true, laidLooks := .later }
def BookRefusesCardSaid : Prop := Claim7.holds Tryd.pinned (.plain (OpenSpec.ofChange bookRefusesSpec)) bookRefusesCard

/-- THE SECOND FORM's CARD OF 'draymanlaw12.BookKeeps'. -/
def bookKeepsUptoCard : Claim7 := { stood := { row := bookKeepsUptoRow, standIns := [], harness := (true, "b2e6b684095f1c38d52e57e59169878bb2802721d5c9142278e5d5a0190c0c47"), looks := false }, kinds := [], alts := [], laidByText := true, laidKinds := [.data], laidTests := true, laidLooks := .later }
def BookKeepsUptoCardSaid : Prop := Claim7.holds Tryd.pinned (.plain (OpenSpec.upto bookKeepsSpec)) bookKeepsUptoCard

/-- THE SECOND FORM's CARD OF 'draymanlaw12.BookRefuses'. -/
def bookRefusesUptoCard : Claim7 := { stood := { row := bookRefusesUptoRow, standIns := [], harness := (true, "b2e6b684095f1c38d52e57e59169878bb2802721d5c9142278e5d5a0190c0c47"), looks := false }, kinds := [], alts := [], laidByText := true, laidKinds := [.data], laidTests := true, laidLooks := .later }
def BookRefusesUptoCardSaid : Prop := Claim7.holds Tryd.pinned (.plain (OpenSpec.upto bookRefusesSpec)) bookRefusesUptoCard
end Rows
end Go.Proofs.YtojkoijdndinoaaDoor
