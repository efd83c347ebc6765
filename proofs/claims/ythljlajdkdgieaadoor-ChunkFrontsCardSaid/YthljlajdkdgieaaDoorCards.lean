/-
  DERIVED. GIVEN WITH THE SEED: THE CARDS: each row of YthljlajdkdgieaaDoorRows.lean that lists a variable, with what it lists TIED to the program's text (the seventh form; the later family's looks); each row that meets fmt, with fmt's text TOLD by the authors' own Lean function (tested against real Go, not proved from fmt's source: count such statements apart). THE CARD IS WHAT COUNTS. Prove the row's statement (the work); the ties are given (YthljlajdkdgieaaDoorTie.lean); close each card by the builder's one call (the guide's Derived/Test/ToyasCard.lean, 'card_holds'). Laid BY PROGRAM, IN A SANDBOX (cutbox-door.mjs). By AI agents, Wed Nov 11 2026. No macro, syntax, notation, axiom, sorry.
-/
import Derived.Test.YthljlajdkdgieaaDoorRows
import GoSem.ClaimSeven
namespace Go.Proofs.YthljlajdkdgieaaDoor
namespace Rows

/-- THE TIED CARD OF 'draymanlaw03.XorSounds'. -/
def xorSoundsCard : Claim7 := { stood := { row := xorSoundsRow, standIns := [], harness := (true, "767f1d77e6ecd8b84c1432af194b6846b95cabac0e595b405ee45b481235f70b"), looks := false }, kinds := [], alts := [], laidByText := true, laidKinds := [.data], laidTests := true, laidLooks := .later }
def XorSoundsCardSaid : Prop := Claim7.holds Tryd.pinned (.plain (OpenSpec.ofChange xorSoundsSpec)) xorSoundsCard

/-- THE TIED CARD OF 'draymanlaw03.XorPuts'. -/
def xorPutsCard : Claim7 := { stood := { row := xorPutsRow, standIns := [], harness := (true, "767f1d77e6ecd8b84c1432af194b6846b95cabac0e595b405ee45b481235f70b"), looks := false }, kinds := [], alts := [], laidByText := true, laidKinds := [.data], laidTests := true, laidLooks := .later }
def XorPutsCardSaid : Prop := Claim7.holds Tryd.pinned (.plain (OpenSpec.ofChange xorPutsSpec)) xorPutsCard

/-- THE TIED CARD OF 'draymanlaw03.XorSame'. -/
def xorSameCard : Claim7 := { stood := { row := xorSameRow, standIns := [], harness := (true, "767f1d77e6ecd8b84c1432af194b6846b95cabac0e595b405ee45b481235f70b"), looks := false }, kinds := [], alts := [], laidByText := true, laidKinds := [.data], laidTests := true, laidLooks := .later }
def XorSameCardSaid : Prop := Claim7.holds Tryd.pinned (.plain (OpenSpec.ofChange xorSameSpec)) xorSameCard

/-- THE TIED CARD OF 'draymanlaw06.ChunkApart'. -/
def chunkApartCard : Claim7 := { stood := { row := chunkApartRow, standIns := [], harness := (true, "767f1d77e6ecd8b84c1432af194b6846b95cabac0e595b405ee45b481235f70b"), looks := false }, kinds := [], alts := [], laidByText := true, laidKinds := [.data], laidTests := true, laidLooks := .later }
def ChunkApartCardSaid : Prop := Claim7.holds Tryd.pinned (.plain (OpenSpec.ofChange chunkApartSpec)) chunkApartCard

/-- THE TIED CARD OF 'draymanlaw06.ChunkPuts'. -/
def chunkPutsCard : Claim7 := { stood := { row := chunkPutsRow, standIns := [], harness := (true, "767f1d77e6ecd8b84c1432af194b6846b95cabac0e595b405ee45b481235f70b"), looks := false }, kinds := [], alts := [], laidByText := true, laidKinds := [.data], laidTests := true, laidLooks := .later }
def ChunkPutsCardSaid : Prop := Claim7.holds Tryd.pinned (.plain (OpenSpec.ofChange chunkPutsSpec)) chunkPutsCard

/-- THE TIED CARD OF 'draymanlaw06.ChunkLays'. -/
def chunkLaysCard : Claim7 := { stood := { row := chunkLaysRow, standIns := [], harness := (true, "767f1d77e6ecd8b84c1432af194b6846b95cabac0e595b405ee45b481235f70b"), looks := false }, kinds := [], alts := [], laidByText := true, laidKinds := [.data], laidTests := true, laidLooks := .later }
def ChunkLaysCardSaid : Prop := Claim7.holds Tryd.pinned (.plain (OpenSpec.ofChange chunkLaysSpec)) chunkLaysCard

/-- THE TIED CARD OF 'draymanlaw03.XorGets'. -/
def xorGetsCard : Claim7 := { stood := { row := xorGetsRow, standIns := [], harness := (true, "767f1d77e6ecd8b84c1432af194b6846b95cabac0e595b405ee45b481235f70b"), looks := false }, kinds := [], alts := [], laidByText := true, laidKinds := [.data], laidTests := true, laidLooks := .later }
def XorGetsCardSaid : Prop := Claim7.holds Tryd.pinned (.plain (OpenSpec.ofChange xorGetsSpec)) xorGetsCard

/-- THE TIED CARD OF 'draymanlaw03.XorBack'. -/
def xorBackCard : Claim7 := { stood := { row := xorBackRow, standIns := [], harness := (true, "767f1d77e6ecd8b84c1432af194b6846b95cabac0e595b405ee45b481235f70b"), looks := false }, kinds := [], alts := [], laidByText := true, laidKinds := [.data], laidTests := true, laidLooks := .later }
def XorBackCardSaid : Prop := Claim7.holds Tryd.pinned (.plain (OpenSpec.ofChange xorBackSpec)) xorBackCard

/-- THE TIED CARD OF 'draymanlaw03.XorOnly'. -/
def xorOnlyCard : Claim7 := { stood := { row := xorOnlyRow, standIns := [], harness := (true, "767f1d77e6ecd8b84c1432af194b6846b95cabac0e595b405ee45b481235f70b"), looks := false }, kinds := [], alts := [], laidByText := true, laidKinds := [.data], laidTests := true, laidLooks := .later }
def XorOnlyCardSaid : Prop := Claim7.holds Tryd.pinned (.plain (OpenSpec.ofChange xorOnlySpec)) xorOnlyCard

/-- THE TIED CARD OF 'draymanlaw06.ChunkGets'. -/
def chunkGetsCard : Claim7 := { stood := { row := chunkGetsRow, standIns := [], harness := (true, "767f1d77e6ecd8b84c1432af194b6846b95cabac0e595b405ee45b481235f70b"), looks := false }, kinds := [], alts := [], laidByText := true, laidKinds := [.data], laidTests := true, laidLooks := .later }
def ChunkGetsCardSaid : Prop := Claim7.holds Tryd.pinned (.plain (OpenSpec.ofChange chunkGetsSpec)) chunkGetsCard

/-- THE TIED CARD OF 'draymanlaw06.ChunkGoes'. -/
def chunkGoesCard : Claim7 := { stood := { row := chunkGoesRow, standIns := [], harness := (true, "767f1d77e6ecd8b84c1432af194b6846b95cabac0e595b405ee45b481235f70b"), looks := false }, kinds := [], alts := [], laidByText := true, laidKinds := [.data], laidTests := true, laidLooks := .later }
def ChunkGoesCardSaid : Prop := Claim7.holds Tryd.pinned (.plain (OpenSpec.ofChange chunkGoesSpec)) chunkGoesCard

/-- THE TIED CARD OF 'draymanlaw06.ChunkOnly'. -/
def chunkOnlyCard : Claim7 := { stood := { row := chunkOnlyRow, standIns := [], harness := (true, "767f1d77e6ecd8b84c1432af194b6846b95cabac0e595b405ee45b481235f70b"), looks := false }, kinds := [], alts := [], laidByText := true, laidKinds := [.data], laidTests := true, laidLooks := .later }
def ChunkOnlyCardSaid : Prop := Claim7.holds Tryd.pinned (.plain (OpenSpec.ofChange chunkOnlySpec)) chunkOnlyCard

/-- THE TIED CARD OF 'draymanlaw06.ChunkReads'. -/
def chunkReadsCard : Claim7 := { stood := { row := chunkReadsRow, standIns := [], harness := (true, "767f1d77e6ecd8b84c1432af194b6846b95cabac0e595b405ee45b481235f70b"), looks := false }, kinds := [], alts := [], laidByText := true, laidKinds := [.data], laidTests := true, laidLooks := .later }
def ChunkReadsCardSaid : Prop := Claim7.holds Tryd.pinned (.plain (OpenSpec.ofChange chunkReadsSpec)) chunkReadsCard

/-- THE TIED CARD OF 'draymanlaw06.ChunkBack'. -/
def chunkBackCard : Claim7 := { stood := { row := chunkBackRow, standIns := [], harness := (true, "767f1d77e6ecd8b84c1432af194b6846b95cabac0e595b405ee45b481235f70b"), looks := false }, kinds := [], alts := [], laidByText := true, laidKinds := [.data], laidTests := true, laidLooks := .later }
def ChunkBackCardSaid : Prop := Claim7.holds Tryd.pinned (.plain (OpenSpec.ofChange chunkBackSpec)) chunkBackCard

/-- THE TIED CARD OF 'draymanlaw06.ChunkFronts'. -/
def chunkFrontsCard : Claim7 := { stood := { row := chunkFrontsRow, standIns := [], harness := (true, "767f1d77e6ecd8b84c1432af194b6846b95cabac0e595b405ee45b481235f70b"), looks := false }, kinds := [], alts := [], laidByText := true, laidKinds := [.data], laidTests := true, laidLooks := .later }
def ChunkFrontsCardSaid : Prop := Claim7.holds Tryd.pinned (.plain (OpenSpec.ofChange chunkFrontsSpec)) chunkFrontsCard

/-- THE SECOND FORM's CARD OF 'draymanlaw03.XorSounds'. -/
def xorSoundsUptoCard : Claim7 := { stood := { row := xorSoundsUptoRow, standIns := [], harness := (true, "767f1d77e6ecd8b84c1432af194b6846b95cabac0e595b405ee45b481235f70b"), looks := false }, kinds := [], alts := [], laidByText := true, laidKinds := [.data], laidTests := true, laidLooks := .later }
def XorSoundsUptoCardSaid : Prop := Claim7.holds Tryd.pinned (.plain (OpenSpec.upto xorSoundsSpec)) xorSoundsUptoCard

/-- THE SECOND FORM's CARD OF 'draymanlaw03.XorPuts'. -/
def xorPutsUptoCard : Claim7 := { stood := { row := xorPutsUptoRow, standIns := [], harness := (true, "767f1d77e6ecd8b84c1432af194b6846b95cabac0e595b405ee45b481235f70b"), looks := false }, kinds := [], alts := [], laidByText := true, laidKinds := [.data], laidTests := true, laidLooks := .later }
def XorPutsUptoCardSaid : Prop := Claim7.holds Tryd.pinned (.plain (OpenSpec.upto xorPutsSpec)) xorPutsUptoCard

/-- THE SECOND FORM's CARD OF 'draymanlaw03.XorSame'. -/
def xorSameUptoCard : Claim7 := { stood := { row := xorSameUptoRow, standIns := [], harness := (true, "767f1d77e6ecd8b84c1432af194b6846b95cabac0e595b405ee45b481235f70b"), looks := false }, kinds := [], alts := [], laidByText := true, laidKinds := [.data], laidTests := true, laidLooks := .later }
def XorSameUptoCardSaid : Prop := Claim7.holds Tryd.pinned (.plain (OpenSpec.upto xorSameSpec)) xorSameUptoCard

/-- THE SECOND FORM's CARD OF 'draymanlaw06.ChunkApart'. -/
def chunkApartUptoCard : Claim7 := { stood := { row := chunkApartUptoRow, standIns := [], harness := (true, "767f1d77e6ecd8b84c1432af194b6846b95cabac0e595b405ee45b481235f70b"), looks := false }, kinds := [], alts := [], laidByText := true, laidKinds := [.data], laidTests := true, laidLooks := .later }
def ChunkApartUptoCardSaid : Prop := Claim7.holds Tryd.pinned (.plain (OpenSpec.upto chunkApartSpec)) chunkApartUptoCard

/-- THE SECOND FORM's CARD OF 'draymanlaw06.ChunkPuts'. -/
def chunkPutsUptoCard : Claim7 := { stood := { row := chunkPutsUptoRow, standIns := [], harness := (true, "767f1d77e6ecd8b84c1432af194b6846b95cabac0e595b405ee45b481235f70b"), looks := false }, kinds := [], alts := [], laidByText := true, laidKinds := [.data], laidTests := true, laidLooks := .later }
def ChunkPutsUptoCardSaid : Prop := Claim7.holds Tryd.pinned (.plain (OpenSpec.upto chunkPutsSpec)) chunkPutsUptoCard

/-- THE SECOND FORM's CARD OF 'draymanlaw06.ChunkLays'. -/
def chunkLaysUptoCard : Claim7 := { stood := { row := chunkLaysUptoRow, standIns := [], harness := (true, "767f1d77e6ecd8b84c1432af194b6846b95cabac0e595b405ee45b481235f70b"), looks := false }, kinds := [], alts := [], laidByText := true, laidKinds := [.data], laidTests := true, laidLooks := .later }
def ChunkLaysUptoCardSaid : Prop := Claim7.holds Tryd.pinned (.plain (OpenSpec.upto chunkLaysSpec)) chunkLaysUptoCard

/-- THE SECOND FORM's CARD OF 'draymanlaw03.XorGets'. -/
def xorGetsUptoCard : Claim7 := { stood := { row := xorGetsUptoRow, standIns := [], harness := (true, "767f1d77e6ecd8b84c1432af194b6846b95cabac0e595b405ee45b481235f70b"), looks := false }, kinds := [], alts := [], laidByText := true, laidKinds := [.data], laidTests := true, laidLooks := .later }
def XorGetsUptoCardSaid : Prop := Claim7.holds Tryd.pinned (.plain (OpenSpec.upto xorGetsSpec)) xorGetsUptoCard

/-- THE SECOND FORM's CARD OF 'draymanlaw03.XorBack'. -/
def xorBackUptoCard : Claim7 := { stood := { row := xorBackUptoRow, standIns := [], harness := (true, "767f1d77e6ecd8b84c1432af194b6846b95cabac0e595b405ee45b481235f70b"), looks := false }, kinds := [], alts := [], laidByText := true, laidKinds := [.data], laidTests := true, laidLooks := .later }
def XorBackUptoCardSaid : Prop := Claim7.holds Tryd.pinned (.plain (OpenSpec.upto xorBackSpec)) xorBackUptoCard

/-- THE SECOND FORM's CARD OF 'draymanlaw03.XorOnly'. -/
def xorOnlyUptoCard : Claim7 := { stood := { row := xorOnlyUptoRow, standIns := [], harness := (true, "767f1d77e6ecd8b84c1432af194b6846b95cabac0e595b405ee45b481235f70b"), looks := false }, kinds := [], alts := [], laidByText := true, laidKinds := [.data], laidTests := true, laidLooks := .later }
def XorOnlyUptoCardSaid : Prop := Claim7.holds Tryd.pinned (.plain (OpenSpec.upto xorOnlySpec)) xorOnlyUptoCard

/-- THE SECOND FORM's CARD OF 'draymanlaw06.ChunkGets'. -/
def chunkGetsUptoCard : Claim7 := { stood := { row := chunkGetsUptoRow, standIns := [], harness := (true, "767f1d77e6ecd8b84c1432af194b6846b95cabac0e595b405ee45b481235f70b"), looks := false }, kinds := [], alts := [], laidByText := true, laidKinds := [.data], laidTests := true, laidLooks := .later }
def ChunkGetsUptoCardSaid : Prop := Claim7.holds Tryd.pinned (.plain (OpenSpec.upto chunkGetsSpec)) chunkGetsUptoCard

/-- THE SECOND FORM's CARD OF 'draymanlaw06.ChunkGoes'. -/
def chunkGoesUptoCard : Claim7 := { stood := { row := chunkGoesUptoRow, standIns := [], harness := (true, "767f1d77e6ecd8b84c1432af194b6846b95cabac0e595b405ee45b481235f70b"), looks := false }, kinds := [], alts := [], laidByText := true, laidKinds := [.data], laidTests := true, laidLooks := .later }
def ChunkGoesUptoCardSaid : Prop := Claim7.holds Tryd.pinned (.plain (OpenSpec.upto chunkGoesSpec)) chunkGoesUptoCard

/-- THE SECOND FORM's CARD OF 'draymanlaw06.ChunkOnly'. -/
def chunkOnlyUptoCard : Claim7 := { stood := { row := chunkOnlyUptoRow, standIns := [], harness := (true, "767f1d77e6ecd8b84c1432af194b6846b95cabac0e595b405ee45b481235f70b"), looks := false }, kinds := [], alts := [], laidByText := true, laidKinds := [.data], laidTests := true, laidLooks := .later }
def ChunkOnlyUptoCardSaid : Prop := Claim7.holds Tryd.pinned (.plain (OpenSpec.upto chunkOnlySpec)) chunkOnlyUptoCard

/-- THE SECOND FORM's CARD OF 'draymanlaw06.ChunkReads'. -/
def chunkReadsUptoCard : Claim7 := { stood := { row := chunkReadsUptoRow, standIns := [], harness := (true, "767f1d77e6ecd8b84c1432af194b6846b95cabac0e595b405ee45b481235f70b"), looks := false }, kinds := [], alts := [], laidByText := true, laidKinds := [.data], laidTests := true, laidLooks := .later }
def ChunkReadsUptoCardSaid : Prop := Claim7.holds Tryd.pinned (.plain (OpenSpec.upto chunkReadsSpec)) chunkReadsUptoCard

/-- THE SECOND FORM's CARD OF 'draymanlaw06.ChunkBack'. -/
def chunkBackUptoCard : Claim7 := { stood := { row := chunkBackUptoRow, standIns := [], harness := (true, "767f1d77e6ecd8b84c1432af194b6846b95cabac0e595b405ee45b481235f70b"), looks := false }, kinds := [], alts := [], laidByText := true, laidKinds := [.data], laidTests := true, laidLooks := .later }
def ChunkBackUptoCardSaid : Prop := Claim7.holds Tryd.pinned (.plain (OpenSpec.upto chunkBackSpec)) chunkBackUptoCard

/-- THE SECOND FORM's CARD OF 'draymanlaw06.ChunkFronts'. -/
def chunkFrontsUptoCard : Claim7 := { stood := { row := chunkFrontsUptoRow, standIns := [], harness := (true, "767f1d77e6ecd8b84c1432af194b6846b95cabac0e595b405ee45b481235f70b"), looks := false }, kinds := [], alts := [], laidByText := true, laidKinds := [.data], laidTests := true, laidLooks := .later }
def ChunkFrontsUptoCardSaid : Prop := Claim7.holds Tryd.pinned (.plain (OpenSpec.upto chunkFrontsSpec)) chunkFrontsUptoCard
end Rows
end Go.Proofs.YthljlajdkdgieaaDoor
