/-
  DERIVED. GIVEN WITH THE SEED: THE CARDS: each row of YtnffcckhdedhpaaDoorRows.lean that lists a variable, with what it lists TIED to the program's text (the seventh form; the later family's looks); each row that meets fmt, with fmt's text TOLD by the authors' own Lean function (tested against real Go, not proved from fmt's source: count such statements apart). THE CARD IS WHAT COUNTS. Prove the row's statement (the work); the ties are given (YtnffcckhdedhpaaDoorTie.lean); close each card by the builder's one call (the guide's Derived/Test/ToyasCard.lean, 'card_holds'). Laid BY PROGRAM, IN A SANDBOX (cutbox-door.mjs). By AI agents, Wed Nov 11 2026. No macro, syntax, notation, axiom, sorry.
-/
import Derived.Test.YtnffcckhdedhpaaDoorRows
import GoSem.ClaimSeven
namespace Go.Proofs.YtnffcckhdedhpaaDoor
namespace Rows

/-- THE TIED CARD OF 'draymanlaw26.DigestRoots'. -/
def digestRootsCard : Claim7 := { stood := { row := digestRootsRow, standIns := [], harness := (true, "a64f2ef87b1d32319b2603b76c2e8fd080766ab8a81c24183f54fc9d8e629e91"), looks := false }, kinds := [], alts := [], laidByText := true, laidKinds := [.data], laidTests := true, laidLooks := .later }
def DigestRootsCardSaid : Prop := Claim7.holds Tryd.pinned (.plain (OpenSpec.ofChange digestRootsSpec)) digestRootsCard

/-- THE TIED CARD OF 'draymanlaw26.DigestSame'. -/
def digestSameCard : Claim7 := { stood := { row := digestSameRow, standIns := [], harness := (true, "a64f2ef87b1d32319b2603b76c2e8fd080766ab8a81c24183f54fc9d8e629e91"), looks := false }, kinds := [], alts := [], laidByText := true, laidKinds := [.data], laidTests := true, laidLooks := .later }
def DigestSameCardSaid : Prop := Claim7.holds Tryd.pinned (.plain (OpenSpec.ofChange digestSameSpec)) digestSameCard

/-- THE TIED CARD OF 'draymanlaw26.DigestFirst'. -/
def digestFirstCard : Claim7 := { stood := { row := digestFirstRow, standIns := [], harness := (true, "a64f2ef87b1d32319b2603b76c2e8fd080766ab8a81c24183f54fc9d8e629e91"), looks := false }, kinds := [], alts := [], laidByText := true, laidKinds := [.data], laidTests := true, laidLooks := .later }
def DigestFirstCardSaid : Prop := Claim7.holds Tryd.pinned (.plain (OpenSpec.ofChange digestFirstSpec)) digestFirstCard

/-- THE SECOND FORM's CARD OF 'draymanlaw26.DigestRoots'. -/
def digestRootsUptoCard : Claim7 := { stood := { row := digestRootsUptoRow, standIns := [], harness := (true, "a64f2ef87b1d32319b2603b76c2e8fd080766ab8a81c24183f54fc9d8e629e91"), looks := false }, kinds := [], alts := [], laidByText := true, laidKinds := [.data], laidTests := true, laidLooks := .later }
def DigestRootsUptoCardSaid : Prop := Claim7.holds Tryd.pinned (.plain (OpenSpec.upto digestRootsSpec)) digestRootsUptoCard

/-- THE SECOND FORM's CARD OF 'draymanlaw26.DigestSame'. -/
def digestSameUptoCard : Claim7 := { stood := { row := digestSameUptoRow, standIns := [], harness := (true, "a64f2ef87b1d32319b2603b76c2e8fd080766ab8a81c24183f54fc9d8e629e91"), looks := false }, kinds := [], alts := [], laidByText := true, laidKinds := [.data], laidTests := true, laidLooks := .later }
def DigestSameUptoCardSaid : Prop := Claim7.holds Tryd.pinned (.plain (OpenSpec.upto digestSameSpec)) digestSameUptoCard

/-- THE SECOND FORM's CARD OF 'draymanlaw26.DigestFirst'. -/
def digestFirstUptoCard : Claim7 := { stood := { row := digestFirstUptoRow, standIns := [], harness := (true, "a64f2ef87b1d32319b2603b76c2e8fd080766ab8a81c24183f54fc9d8e629e91"), looks := false }, kinds := [], alts := [], laidByText := true, laidKinds := [.data], laidTests := true, laidLooks := .later }
def DigestFirstUptoCardSaid : Prop := Claim7.holds Tryd.pinned (.plain (OpenSpec.upto digestFirstSpec)) digestFirstUptoCard
end Rows
end Go.Proofs.YtnffcckhdedhpaaDoor
