/-
  NARROWER THAN 'FOR EVERY INPUT', by the rows' own cells (each row's printed sentence says how): XorSounds: laid · XorPuts: laid · XorSame: laid · ChunkApart: laid · ChunkPuts: laid · ChunkLays: laid · XorGets: laid · XorBack: laid · XorOnly: laid · ChunkGets: laid · ChunkGoes: laid · ChunkOnly: laid · ChunkReads: laid · ChunkBack: laid · ChunkFronts: laid.
  DERIVED. THE GIVEN ROWS OF THIS SEAT. 15 by the template 'for every input the law returns true; each argument reads behind the call as it read before'; 0 by the template 'total and deterministic' (their statements: YthljlajdkdgieaaDoorTotals.lean).
  GIVEN WITH THE SEED: the statements are not yours to turn. If you find one false, say at which input.
  Laid BY PROGRAM, IN A SANDBOX (cutbox-rows.mjs): the forced cells as the released guide's own fill.sh prints them over the translation 96717ca41a6064be… (all of the seat's roots in one cut). By AI agents, Wed Nov 11 2026. No macro, syntax, notation, axiom, sorry.
-/
import Derived.Test.YthljlajdkdgieaaDoorChecked
import GoSem.Claim
import GoSem.ClaimJoined
import GoSem.ClaimMapViews
import Derived.JoinedTies
import Derived.KernelRfl
namespace Go.Proofs.YthljlajdkdgieaaDoor
/- THE CELL 'sum', in the pinned program and in every row, IS THE sha256 OF THE DUMP (.gsa) THAT YthljlajdkdgieaaDoorProg.lean LOADS. Nothing in Lean hashes anything: it is a label: what it is worth is what the hold of that sum in a sandbox is worth. -/
noncomputable def Tryd.pinned : Pinned := { name := "ythljlajdkdgieaadoor", sum := "96717ca41a6064be5cf4ca33a1286ddca61d3e06e0195c97f99a6fed0c428bea", checked := Tryd.checked }
namespace Rows
def none {H : Type} : Left H := { results := [], args := [] }

/- WHAT THE LISTED PACKAGE-LEVEL VARIABLES READ AS WHEN THE CALL BEGINS. Each datum BY PROGRAM (the guide's laid-datum.mjs) off the statement by which the dump's own 'gosem.cut.vars' lays the variable. In a bare row this is a premise. The card (YthljlajdkdgieaaDoorCards.lean) ties it to the program's text. -/
def laid_math_bits_deBruijn64tab {H : Type} : DataW H := .agg [.lit (.int .u8 0), .lit (.int .u8 1), .lit (.int .u8 56), .lit (.int .u8 2), .lit (.int .u8 57), .lit (.int .u8 49), .lit (.int .u8 28), .lit (.int .u8 3), .lit (.int .u8 61), .lit (.int .u8 58), .lit (.int .u8 42), .lit (.int .u8 50), .lit (.int .u8 38), .lit (.int .u8 29), .lit (.int .u8 17), .lit (.int .u8 4), .lit (.int .u8 62), .lit (.int .u8 47), .lit (.int .u8 59), .lit (.int .u8 36), .lit (.int .u8 45), .lit (.int .u8 43), .lit (.int .u8 51), .lit (.int .u8 22), .lit (.int .u8 53), .lit (.int .u8 39), .lit (.int .u8 33), .lit (.int .u8 30), .lit (.int .u8 24), .lit (.int .u8 18), .lit (.int .u8 12), .lit (.int .u8 5), .lit (.int .u8 63), .lit (.int .u8 55), .lit (.int .u8 48), .lit (.int .u8 27), .lit (.int .u8 60), .lit (.int .u8 41), .lit (.int .u8 37), .lit (.int .u8 16), .lit (.int .u8 46), .lit (.int .u8 35), .lit (.int .u8 44), .lit (.int .u8 21), .lit (.int .u8 52), .lit (.int .u8 32), .lit (.int .u8 23), .lit (.int .u8 11), .lit (.int .u8 54), .lit (.int .u8 26), .lit (.int .u8 40), .lit (.int .u8 15), .lit (.int .u8 34), .lit (.int .u8 20), .lit (.int .u8 31), .lit (.int .u8 10), .lit (.int .u8 25), .lit (.int .u8 14), .lit (.int .u8 19), .lit (.int .u8 9), .lit (.int .u8 13), .lit (.int .u8 8), .lit (.int .u8 7), .lit (.int .u8 6)]

/-- 'draymanlaw03.XorSounds': WHATEVER THE INPUT: true; the input reads as it did. -/
def xorSoundsSpec : ChangeSpec := { name := "xorSounds", fn := fun _ => fun
  | [d] => { results := [.lit (.bool true)], args := [d] }
  | _ => none }
def xorSoundsRow : OpenClaim := { program := "ythljlajdkdgieaadoor", sum := "96717ca41a6064be5cf4ca33a1286ddca61d3e06e0195c97f99a6fed0c428bea", func := "drayman/draymanlaw03.XorSounds", spec := "xorSounds", named := ["math/bits.deBruijn64tab"], apart := false, laid := [("math/bits.deBruijn64tab", laid_math_bits_deBruijn64tab)] }
def XorSoundsSaid : Prop := xorSoundsRow.holds Tryd.pinned (OpenSpec.ofChange xorSoundsSpec)

/-- ITS FALSE NEIGHBOUR: 'it returns false'. Refute it at one input. -/
def xorSoundsWrong : ChangeSpec := { name := "xorSounds", fn := fun _ => fun
  | [d] => { results := [.lit (.bool false)], args := [d] }
  | _ => none }
def XorSoundsWrongFalsely : Prop := xorSoundsRow.holds Tryd.pinned (OpenSpec.ofChange xorSoundsWrong)

/-- 'draymanlaw03.XorPuts': WHATEVER THE INPUT: true; the input reads as it did. -/
def xorPutsSpec : ChangeSpec := { name := "xorPuts", fn := fun _ => fun
  | [d1, d2, d3] => { results := [.lit (.bool true)], args := [d1, d2, d3] }
  | _ => none }
def xorPutsRow : OpenClaim := { program := "ythljlajdkdgieaadoor", sum := "96717ca41a6064be5cf4ca33a1286ddca61d3e06e0195c97f99a6fed0c428bea", func := "drayman/draymanlaw03.XorPuts", spec := "xorPuts", named := ["math/bits.deBruijn64tab"], apart := false, laid := [("math/bits.deBruijn64tab", laid_math_bits_deBruijn64tab)] }
def XorPutsSaid : Prop := xorPutsRow.holds Tryd.pinned (OpenSpec.ofChange xorPutsSpec)

/-- ITS FALSE NEIGHBOUR: 'it returns false'. Refute it at one input. -/
def xorPutsWrong : ChangeSpec := { name := "xorPuts", fn := fun _ => fun
  | [d1, d2, d3] => { results := [.lit (.bool false)], args := [d1, d2, d3] }
  | _ => none }
def XorPutsWrongFalsely : Prop := xorPutsRow.holds Tryd.pinned (OpenSpec.ofChange xorPutsWrong)

/-- 'draymanlaw03.XorSame': WHATEVER THE INPUT: true; the input reads as it did. -/
def xorSameSpec : ChangeSpec := { name := "xorSame", fn := fun _ => fun
  | [d1, d2] => { results := [.lit (.bool true)], args := [d1, d2] }
  | _ => none }
def xorSameRow : OpenClaim := { program := "ythljlajdkdgieaadoor", sum := "96717ca41a6064be5cf4ca33a1286ddca61d3e06e0195c97f99a6fed0c428bea", func := "drayman/draymanlaw03.XorSame", spec := "xorSame", named := ["math/bits.deBruijn64tab"], apart := false, laid := [("math/bits.deBruijn64tab", laid_math_bits_deBruijn64tab)] }
def XorSameSaid : Prop := xorSameRow.holds Tryd.pinned (OpenSpec.ofChange xorSameSpec)

/-- ITS FALSE NEIGHBOUR: 'it returns false'. Refute it at one input. -/
def xorSameWrong : ChangeSpec := { name := "xorSame", fn := fun _ => fun
  | [d1, d2] => { results := [.lit (.bool false)], args := [d1, d2] }
  | _ => none }
def XorSameWrongFalsely : Prop := xorSameRow.holds Tryd.pinned (OpenSpec.ofChange xorSameWrong)

/-- 'draymanlaw06.ChunkApart': WHATEVER THE INPUT: true; the input reads as it did. -/
def chunkApartSpec : ChangeSpec := { name := "chunkApart", fn := fun _ => fun
  | [d1, d2] => { results := [.lit (.bool true)], args := [d1, d2] }
  | _ => none }
def chunkApartRow : OpenClaim := { program := "ythljlajdkdgieaadoor", sum := "96717ca41a6064be5cf4ca33a1286ddca61d3e06e0195c97f99a6fed0c428bea", func := "drayman/draymanlaw06.ChunkApart", spec := "chunkApart", named := ["math/bits.deBruijn64tab"], apart := false, laid := [("math/bits.deBruijn64tab", laid_math_bits_deBruijn64tab)] }
def ChunkApartSaid : Prop := chunkApartRow.holds Tryd.pinned (OpenSpec.ofChange chunkApartSpec)

/-- ITS FALSE NEIGHBOUR: 'it returns false'. Refute it at one input. -/
def chunkApartWrong : ChangeSpec := { name := "chunkApart", fn := fun _ => fun
  | [d1, d2] => { results := [.lit (.bool false)], args := [d1, d2] }
  | _ => none }
def ChunkApartWrongFalsely : Prop := chunkApartRow.holds Tryd.pinned (OpenSpec.ofChange chunkApartWrong)

/-- 'draymanlaw06.ChunkPuts': WHATEVER THE INPUT: true; the input reads as it did. -/
def chunkPutsSpec : ChangeSpec := { name := "chunkPuts", fn := fun _ => fun
  | [d1, d2, d3] => { results := [.lit (.bool true)], args := [d1, d2, d3] }
  | _ => none }
def chunkPutsRow : OpenClaim := { program := "ythljlajdkdgieaadoor", sum := "96717ca41a6064be5cf4ca33a1286ddca61d3e06e0195c97f99a6fed0c428bea", func := "drayman/draymanlaw06.ChunkPuts", spec := "chunkPuts", named := ["math/bits.deBruijn64tab"], apart := false, laid := [("math/bits.deBruijn64tab", laid_math_bits_deBruijn64tab)] }
def ChunkPutsSaid : Prop := chunkPutsRow.holds Tryd.pinned (OpenSpec.ofChange chunkPutsSpec)

/-- ITS FALSE NEIGHBOUR: 'it returns false'. Refute it at one input. -/
def chunkPutsWrong : ChangeSpec := { name := "chunkPuts", fn := fun _ => fun
  | [d1, d2, d3] => { results := [.lit (.bool false)], args := [d1, d2, d3] }
  | _ => none }
def ChunkPutsWrongFalsely : Prop := chunkPutsRow.holds Tryd.pinned (OpenSpec.ofChange chunkPutsWrong)

/-- 'draymanlaw06.ChunkLays': WHATEVER THE INPUT: true; the input reads as it did. -/
def chunkLaysSpec : ChangeSpec := { name := "chunkLays", fn := fun _ => fun
  | [d] => { results := [.lit (.bool true)], args := [d] }
  | _ => none }
def chunkLaysRow : OpenClaim := { program := "ythljlajdkdgieaadoor", sum := "96717ca41a6064be5cf4ca33a1286ddca61d3e06e0195c97f99a6fed0c428bea", func := "drayman/draymanlaw06.ChunkLays", spec := "chunkLays", named := ["math/bits.deBruijn64tab"], apart := false, laid := [("math/bits.deBruijn64tab", laid_math_bits_deBruijn64tab)] }
def ChunkLaysSaid : Prop := chunkLaysRow.holds Tryd.pinned (OpenSpec.ofChange chunkLaysSpec)

/-- ITS FALSE NEIGHBOUR: 'it returns false'. Refute it at one input. -/
def chunkLaysWrong : ChangeSpec := { name := "chunkLays", fn := fun _ => fun
  | [d] => { results := [.lit (.bool false)], args := [d] }
  | _ => none }
def ChunkLaysWrongFalsely : Prop := chunkLaysRow.holds Tryd.pinned (OpenSpec.ofChange chunkLaysWrong)

/-- 'draymanlaw03.XorGets': WHATEVER THE INPUT: true; the input reads as it did. -/
def xorGetsSpec : ChangeSpec := { name := "xorGets", fn := fun _ => fun
  | [d1, d2, d3] => { results := [.lit (.bool true)], args := [d1, d2, d3] }
  | _ => none }
def xorGetsRow : OpenClaim := { program := "ythljlajdkdgieaadoor", sum := "96717ca41a6064be5cf4ca33a1286ddca61d3e06e0195c97f99a6fed0c428bea", func := "drayman/draymanlaw03.XorGets", spec := "xorGets", named := ["math/bits.deBruijn64tab"], apart := false, laid := [("math/bits.deBruijn64tab", laid_math_bits_deBruijn64tab)] }
def XorGetsSaid : Prop := xorGetsRow.holds Tryd.pinned (OpenSpec.ofChange xorGetsSpec)

/-- ITS FALSE NEIGHBOUR: 'it returns false'. Refute it at one input. -/
def xorGetsWrong : ChangeSpec := { name := "xorGets", fn := fun _ => fun
  | [d1, d2, d3] => { results := [.lit (.bool false)], args := [d1, d2, d3] }
  | _ => none }
def XorGetsWrongFalsely : Prop := xorGetsRow.holds Tryd.pinned (OpenSpec.ofChange xorGetsWrong)

/-- 'draymanlaw03.XorBack': WHATEVER THE INPUT: true; the input reads as it did. -/
def xorBackSpec : ChangeSpec := { name := "xorBack", fn := fun _ => fun
  | [d] => { results := [.lit (.bool true)], args := [d] }
  | _ => none }
def xorBackRow : OpenClaim := { program := "ythljlajdkdgieaadoor", sum := "96717ca41a6064be5cf4ca33a1286ddca61d3e06e0195c97f99a6fed0c428bea", func := "drayman/draymanlaw03.XorBack", spec := "xorBack", named := ["math/bits.deBruijn64tab"], apart := false, laid := [("math/bits.deBruijn64tab", laid_math_bits_deBruijn64tab)] }
def XorBackSaid : Prop := xorBackRow.holds Tryd.pinned (OpenSpec.ofChange xorBackSpec)

/-- ITS FALSE NEIGHBOUR: 'it returns false'. Refute it at one input. -/
def xorBackWrong : ChangeSpec := { name := "xorBack", fn := fun _ => fun
  | [d] => { results := [.lit (.bool false)], args := [d] }
  | _ => none }
def XorBackWrongFalsely : Prop := xorBackRow.holds Tryd.pinned (OpenSpec.ofChange xorBackWrong)

/-- 'draymanlaw03.XorOnly': WHATEVER THE INPUT: true; the input reads as it did. -/
def xorOnlySpec : ChangeSpec := { name := "xorOnly", fn := fun _ => fun
  | [d1, d2, d3] => { results := [.lit (.bool true)], args := [d1, d2, d3] }
  | _ => none }
def xorOnlyRow : OpenClaim := { program := "ythljlajdkdgieaadoor", sum := "96717ca41a6064be5cf4ca33a1286ddca61d3e06e0195c97f99a6fed0c428bea", func := "drayman/draymanlaw03.XorOnly", spec := "xorOnly", named := ["math/bits.deBruijn64tab"], apart := false, laid := [("math/bits.deBruijn64tab", laid_math_bits_deBruijn64tab)] }
def XorOnlySaid : Prop := xorOnlyRow.holds Tryd.pinned (OpenSpec.ofChange xorOnlySpec)

/-- ITS FALSE NEIGHBOUR: 'it returns false'. Refute it at one input. -/
def xorOnlyWrong : ChangeSpec := { name := "xorOnly", fn := fun _ => fun
  | [d1, d2, d3] => { results := [.lit (.bool false)], args := [d1, d2, d3] }
  | _ => none }
def XorOnlyWrongFalsely : Prop := xorOnlyRow.holds Tryd.pinned (OpenSpec.ofChange xorOnlyWrong)

/-- 'draymanlaw06.ChunkGets': WHATEVER THE INPUT: true; the input reads as it did. -/
def chunkGetsSpec : ChangeSpec := { name := "chunkGets", fn := fun _ => fun
  | [d1, d2, d3] => { results := [.lit (.bool true)], args := [d1, d2, d3] }
  | _ => none }
def chunkGetsRow : OpenClaim := { program := "ythljlajdkdgieaadoor", sum := "96717ca41a6064be5cf4ca33a1286ddca61d3e06e0195c97f99a6fed0c428bea", func := "drayman/draymanlaw06.ChunkGets", spec := "chunkGets", named := ["math/bits.deBruijn64tab"], apart := false, laid := [("math/bits.deBruijn64tab", laid_math_bits_deBruijn64tab)] }
def ChunkGetsSaid : Prop := chunkGetsRow.holds Tryd.pinned (OpenSpec.ofChange chunkGetsSpec)

/-- ITS FALSE NEIGHBOUR: 'it returns false'. Refute it at one input. -/
def chunkGetsWrong : ChangeSpec := { name := "chunkGets", fn := fun _ => fun
  | [d1, d2, d3] => { results := [.lit (.bool false)], args := [d1, d2, d3] }
  | _ => none }
def ChunkGetsWrongFalsely : Prop := chunkGetsRow.holds Tryd.pinned (OpenSpec.ofChange chunkGetsWrong)

/-- 'draymanlaw06.ChunkGoes': WHATEVER THE INPUT: true; the input reads as it did. -/
def chunkGoesSpec : ChangeSpec := { name := "chunkGoes", fn := fun _ => fun
  | [d1, d2] => { results := [.lit (.bool true)], args := [d1, d2] }
  | _ => none }
def chunkGoesRow : OpenClaim := { program := "ythljlajdkdgieaadoor", sum := "96717ca41a6064be5cf4ca33a1286ddca61d3e06e0195c97f99a6fed0c428bea", func := "drayman/draymanlaw06.ChunkGoes", spec := "chunkGoes", named := ["math/bits.deBruijn64tab"], apart := false, laid := [("math/bits.deBruijn64tab", laid_math_bits_deBruijn64tab)] }
def ChunkGoesSaid : Prop := chunkGoesRow.holds Tryd.pinned (OpenSpec.ofChange chunkGoesSpec)

/-- ITS FALSE NEIGHBOUR: 'it returns false'. Refute it at one input. -/
def chunkGoesWrong : ChangeSpec := { name := "chunkGoes", fn := fun _ => fun
  | [d1, d2] => { results := [.lit (.bool false)], args := [d1, d2] }
  | _ => none }
def ChunkGoesWrongFalsely : Prop := chunkGoesRow.holds Tryd.pinned (OpenSpec.ofChange chunkGoesWrong)

/-- 'draymanlaw06.ChunkOnly': WHATEVER THE INPUT: true; the input reads as it did. -/
def chunkOnlySpec : ChangeSpec := { name := "chunkOnly", fn := fun _ => fun
  | [d] => { results := [.lit (.bool true)], args := [d] }
  | _ => none }
def chunkOnlyRow : OpenClaim := { program := "ythljlajdkdgieaadoor", sum := "96717ca41a6064be5cf4ca33a1286ddca61d3e06e0195c97f99a6fed0c428bea", func := "drayman/draymanlaw06.ChunkOnly", spec := "chunkOnly", unfollowed := true, recurses := true, named := ["math/bits.deBruijn64tab"], apart := false, laid := [("math/bits.deBruijn64tab", laid_math_bits_deBruijn64tab)] }
def ChunkOnlySaid : Prop := chunkOnlyRow.holds Tryd.pinned (OpenSpec.ofChange chunkOnlySpec)

/-- ITS FALSE NEIGHBOUR: 'it returns false'. Refute it at one input. -/
def chunkOnlyWrong : ChangeSpec := { name := "chunkOnly", fn := fun _ => fun
  | [d] => { results := [.lit (.bool false)], args := [d] }
  | _ => none }
def ChunkOnlyWrongFalsely : Prop := chunkOnlyRow.holds Tryd.pinned (OpenSpec.ofChange chunkOnlyWrong)

/-- 'draymanlaw06.ChunkReads': WHATEVER THE INPUT: true; the input reads as it did. -/
def chunkReadsSpec : ChangeSpec := { name := "chunkReads", fn := fun _ => fun
  | [d] => { results := [.lit (.bool true)], args := [d] }
  | _ => none }
def chunkReadsRow : OpenClaim := { program := "ythljlajdkdgieaadoor", sum := "96717ca41a6064be5cf4ca33a1286ddca61d3e06e0195c97f99a6fed0c428bea", func := "drayman/draymanlaw06.ChunkReads", spec := "chunkReads", unfollowed := true, recurses := true, named := ["math/bits.deBruijn64tab"], apart := false, laid := [("math/bits.deBruijn64tab", laid_math_bits_deBruijn64tab)] }
def ChunkReadsSaid : Prop := chunkReadsRow.holds Tryd.pinned (OpenSpec.ofChange chunkReadsSpec)

/-- ITS FALSE NEIGHBOUR: 'it returns false'. Refute it at one input. -/
def chunkReadsWrong : ChangeSpec := { name := "chunkReads", fn := fun _ => fun
  | [d] => { results := [.lit (.bool false)], args := [d] }
  | _ => none }
def ChunkReadsWrongFalsely : Prop := chunkReadsRow.holds Tryd.pinned (OpenSpec.ofChange chunkReadsWrong)

/-- 'draymanlaw06.ChunkBack': WHATEVER THE INPUT: true; the input reads as it did. -/
def chunkBackSpec : ChangeSpec := { name := "chunkBack", fn := fun _ => fun
  | [d] => { results := [.lit (.bool true)], args := [d] }
  | _ => none }
def chunkBackRow : OpenClaim := { program := "ythljlajdkdgieaadoor", sum := "96717ca41a6064be5cf4ca33a1286ddca61d3e06e0195c97f99a6fed0c428bea", func := "drayman/draymanlaw06.ChunkBack", spec := "chunkBack", unfollowed := true, recurses := true, named := ["math/bits.deBruijn64tab"], apart := false, laid := [("math/bits.deBruijn64tab", laid_math_bits_deBruijn64tab)] }
def ChunkBackSaid : Prop := chunkBackRow.holds Tryd.pinned (OpenSpec.ofChange chunkBackSpec)

/-- ITS FALSE NEIGHBOUR: 'it returns false'. Refute it at one input. -/
def chunkBackWrong : ChangeSpec := { name := "chunkBack", fn := fun _ => fun
  | [d] => { results := [.lit (.bool false)], args := [d] }
  | _ => none }
def ChunkBackWrongFalsely : Prop := chunkBackRow.holds Tryd.pinned (OpenSpec.ofChange chunkBackWrong)

/-- 'draymanlaw06.ChunkFronts': WHATEVER THE INPUT: true; the input reads as it did. -/
def chunkFrontsSpec : ChangeSpec := { name := "chunkFronts", fn := fun _ => fun
  | [d1, d2] => { results := [.lit (.bool true)], args := [d1, d2] }
  | _ => none }
def chunkFrontsRow : OpenClaim := { program := "ythljlajdkdgieaadoor", sum := "96717ca41a6064be5cf4ca33a1286ddca61d3e06e0195c97f99a6fed0c428bea", func := "drayman/draymanlaw06.ChunkFronts", spec := "chunkFronts", unfollowed := true, recurses := true, named := ["math/bits.deBruijn64tab"], apart := false, laid := [("math/bits.deBruijn64tab", laid_math_bits_deBruijn64tab)] }
def ChunkFrontsSaid : Prop := chunkFrontsRow.holds Tryd.pinned (OpenSpec.ofChange chunkFrontsSpec)

/-- ITS FALSE NEIGHBOUR: 'it returns false'. Refute it at one input. -/
def chunkFrontsWrong : ChangeSpec := { name := "chunkFronts", fn := fun _ => fun
  | [d1, d2] => { results := [.lit (.bool false)], args := [d1, d2] }
  | _ => none }
def ChunkFrontsWrongFalsely : Prop := chunkFrontsRow.holds Tryd.pinned (OpenSpec.ofChange chunkFrontsWrong)

/- THE SECOND FORM. 'bulk': how many values and letters a reading holds, each counted each time it is reached (what is shared counts as often as it is met; a slice's spare places count too). A statement '..UptoSaid' is the law's where the arguments, and the package variables that the reading takes, are together of bulk at most 1048576: NARROWER than '..Said'. Prove '..Said' where nothing that the law and all that it calls make is longer than what came in: it says more and counts as full. Else prove '..UptoSaid'. A law counts once. -/
mutual
def uptoBulk {H : Type} : DataW H → Nat
  | .lit (.string bytes) => bytes.length + 1
  | .lit _ => 1
  | .nil => 1
  | .ptr d => uptoBulk d + 1
  | .slice elems spare => uptoBulkAll elems + uptoBulkAll spare + 1
  | .agg parts => uptoBulkAll parts + 1
  | .iface _ d => uptoBulk d + 1
  | .map entries => uptoBulkEntries entries + 1
  | .held _ => 1
def uptoBulkAll {H : Type} : List (DataW H) → Nat
  | [] => 0
  | d :: r => uptoBulk d + uptoBulkAll r
def uptoBulkEntries {H : Type} : List (Lit × DataW H) → Nat
  | [] => 0
  | x :: r => uptoBulkEntry x + uptoBulkEntries r
def uptoBulkEntry {H : Type} : Lit × DataW H → Nat
  | (.string bytes, d) => bytes.length + uptoBulk d + 1
  | (_, d) => uptoBulk d + 1
 end
def uptoSmall : (H : Type) → List (DataW H) → Bool := fun _ ds => decide (uptoBulkAll ds ≤ 1048576)
def OpenSpec.upto (s : _root_.Go.ChangeSpec) : _root_.Go.OpenSpec := { _root_.Go.OpenSpec.ofChange s with cond := some uptoSmall }

/-- 'draymanlaw03.XorSounds', WHERE WHAT IT READS IS OF BULK AT MOST 1048576: true; the input reads as it did. -/
def xorSoundsUptoRow : OpenClaim := { program := "ythljlajdkdgieaadoor", sum := "96717ca41a6064be5cf4ca33a1286ddca61d3e06e0195c97f99a6fed0c428bea", func := "drayman/draymanlaw03.XorSounds", spec := "xorSounds", named := ["math/bits.deBruijn64tab"], apart := false, laid := [("math/bits.deBruijn64tab", laid_math_bits_deBruijn64tab)], narrowed := true }
def XorSoundsUptoSaid : Prop := xorSoundsUptoRow.holds Tryd.pinned (OpenSpec.upto xorSoundsSpec)

/-- 'draymanlaw03.XorPuts', WHERE WHAT IT READS IS OF BULK AT MOST 1048576: true; the input reads as it did. -/
def xorPutsUptoRow : OpenClaim := { program := "ythljlajdkdgieaadoor", sum := "96717ca41a6064be5cf4ca33a1286ddca61d3e06e0195c97f99a6fed0c428bea", func := "drayman/draymanlaw03.XorPuts", spec := "xorPuts", named := ["math/bits.deBruijn64tab"], apart := false, laid := [("math/bits.deBruijn64tab", laid_math_bits_deBruijn64tab)], narrowed := true }
def XorPutsUptoSaid : Prop := xorPutsUptoRow.holds Tryd.pinned (OpenSpec.upto xorPutsSpec)

/-- 'draymanlaw03.XorSame', WHERE WHAT IT READS IS OF BULK AT MOST 1048576: true; the input reads as it did. -/
def xorSameUptoRow : OpenClaim := { program := "ythljlajdkdgieaadoor", sum := "96717ca41a6064be5cf4ca33a1286ddca61d3e06e0195c97f99a6fed0c428bea", func := "drayman/draymanlaw03.XorSame", spec := "xorSame", named := ["math/bits.deBruijn64tab"], apart := false, laid := [("math/bits.deBruijn64tab", laid_math_bits_deBruijn64tab)], narrowed := true }
def XorSameUptoSaid : Prop := xorSameUptoRow.holds Tryd.pinned (OpenSpec.upto xorSameSpec)

/-- 'draymanlaw06.ChunkApart', WHERE WHAT IT READS IS OF BULK AT MOST 1048576: true; the input reads as it did. -/
def chunkApartUptoRow : OpenClaim := { program := "ythljlajdkdgieaadoor", sum := "96717ca41a6064be5cf4ca33a1286ddca61d3e06e0195c97f99a6fed0c428bea", func := "drayman/draymanlaw06.ChunkApart", spec := "chunkApart", named := ["math/bits.deBruijn64tab"], apart := false, laid := [("math/bits.deBruijn64tab", laid_math_bits_deBruijn64tab)], narrowed := true }
def ChunkApartUptoSaid : Prop := chunkApartUptoRow.holds Tryd.pinned (OpenSpec.upto chunkApartSpec)

/-- 'draymanlaw06.ChunkPuts', WHERE WHAT IT READS IS OF BULK AT MOST 1048576: true; the input reads as it did. -/
def chunkPutsUptoRow : OpenClaim := { program := "ythljlajdkdgieaadoor", sum := "96717ca41a6064be5cf4ca33a1286ddca61d3e06e0195c97f99a6fed0c428bea", func := "drayman/draymanlaw06.ChunkPuts", spec := "chunkPuts", named := ["math/bits.deBruijn64tab"], apart := false, laid := [("math/bits.deBruijn64tab", laid_math_bits_deBruijn64tab)], narrowed := true }
def ChunkPutsUptoSaid : Prop := chunkPutsUptoRow.holds Tryd.pinned (OpenSpec.upto chunkPutsSpec)

/-- 'draymanlaw06.ChunkLays', WHERE WHAT IT READS IS OF BULK AT MOST 1048576: true; the input reads as it did. -/
def chunkLaysUptoRow : OpenClaim := { program := "ythljlajdkdgieaadoor", sum := "96717ca41a6064be5cf4ca33a1286ddca61d3e06e0195c97f99a6fed0c428bea", func := "drayman/draymanlaw06.ChunkLays", spec := "chunkLays", named := ["math/bits.deBruijn64tab"], apart := false, laid := [("math/bits.deBruijn64tab", laid_math_bits_deBruijn64tab)], narrowed := true }
def ChunkLaysUptoSaid : Prop := chunkLaysUptoRow.holds Tryd.pinned (OpenSpec.upto chunkLaysSpec)

/-- 'draymanlaw03.XorGets', WHERE WHAT IT READS IS OF BULK AT MOST 1048576: true; the input reads as it did. -/
def xorGetsUptoRow : OpenClaim := { program := "ythljlajdkdgieaadoor", sum := "96717ca41a6064be5cf4ca33a1286ddca61d3e06e0195c97f99a6fed0c428bea", func := "drayman/draymanlaw03.XorGets", spec := "xorGets", named := ["math/bits.deBruijn64tab"], apart := false, laid := [("math/bits.deBruijn64tab", laid_math_bits_deBruijn64tab)], narrowed := true }
def XorGetsUptoSaid : Prop := xorGetsUptoRow.holds Tryd.pinned (OpenSpec.upto xorGetsSpec)

/-- 'draymanlaw03.XorBack', WHERE WHAT IT READS IS OF BULK AT MOST 1048576: true; the input reads as it did. -/
def xorBackUptoRow : OpenClaim := { program := "ythljlajdkdgieaadoor", sum := "96717ca41a6064be5cf4ca33a1286ddca61d3e06e0195c97f99a6fed0c428bea", func := "drayman/draymanlaw03.XorBack", spec := "xorBack", named := ["math/bits.deBruijn64tab"], apart := false, laid := [("math/bits.deBruijn64tab", laid_math_bits_deBruijn64tab)], narrowed := true }
def XorBackUptoSaid : Prop := xorBackUptoRow.holds Tryd.pinned (OpenSpec.upto xorBackSpec)

/-- 'draymanlaw03.XorOnly', WHERE WHAT IT READS IS OF BULK AT MOST 1048576: true; the input reads as it did. -/
def xorOnlyUptoRow : OpenClaim := { program := "ythljlajdkdgieaadoor", sum := "96717ca41a6064be5cf4ca33a1286ddca61d3e06e0195c97f99a6fed0c428bea", func := "drayman/draymanlaw03.XorOnly", spec := "xorOnly", named := ["math/bits.deBruijn64tab"], apart := false, laid := [("math/bits.deBruijn64tab", laid_math_bits_deBruijn64tab)], narrowed := true }
def XorOnlyUptoSaid : Prop := xorOnlyUptoRow.holds Tryd.pinned (OpenSpec.upto xorOnlySpec)

/-- 'draymanlaw06.ChunkGets', WHERE WHAT IT READS IS OF BULK AT MOST 1048576: true; the input reads as it did. -/
def chunkGetsUptoRow : OpenClaim := { program := "ythljlajdkdgieaadoor", sum := "96717ca41a6064be5cf4ca33a1286ddca61d3e06e0195c97f99a6fed0c428bea", func := "drayman/draymanlaw06.ChunkGets", spec := "chunkGets", named := ["math/bits.deBruijn64tab"], apart := false, laid := [("math/bits.deBruijn64tab", laid_math_bits_deBruijn64tab)], narrowed := true }
def ChunkGetsUptoSaid : Prop := chunkGetsUptoRow.holds Tryd.pinned (OpenSpec.upto chunkGetsSpec)

/-- 'draymanlaw06.ChunkGoes', WHERE WHAT IT READS IS OF BULK AT MOST 1048576: true; the input reads as it did. -/
def chunkGoesUptoRow : OpenClaim := { program := "ythljlajdkdgieaadoor", sum := "96717ca41a6064be5cf4ca33a1286ddca61d3e06e0195c97f99a6fed0c428bea", func := "drayman/draymanlaw06.ChunkGoes", spec := "chunkGoes", named := ["math/bits.deBruijn64tab"], apart := false, laid := [("math/bits.deBruijn64tab", laid_math_bits_deBruijn64tab)], narrowed := true }
def ChunkGoesUptoSaid : Prop := chunkGoesUptoRow.holds Tryd.pinned (OpenSpec.upto chunkGoesSpec)

/-- 'draymanlaw06.ChunkOnly', WHERE WHAT IT READS IS OF BULK AT MOST 1048576: true; the input reads as it did. -/
def chunkOnlyUptoRow : OpenClaim := { program := "ythljlajdkdgieaadoor", sum := "96717ca41a6064be5cf4ca33a1286ddca61d3e06e0195c97f99a6fed0c428bea", func := "drayman/draymanlaw06.ChunkOnly", spec := "chunkOnly", unfollowed := true, recurses := true, named := ["math/bits.deBruijn64tab"], apart := false, laid := [("math/bits.deBruijn64tab", laid_math_bits_deBruijn64tab)], narrowed := true }
def ChunkOnlyUptoSaid : Prop := chunkOnlyUptoRow.holds Tryd.pinned (OpenSpec.upto chunkOnlySpec)

/-- 'draymanlaw06.ChunkReads', WHERE WHAT IT READS IS OF BULK AT MOST 1048576: true; the input reads as it did. -/
def chunkReadsUptoRow : OpenClaim := { program := "ythljlajdkdgieaadoor", sum := "96717ca41a6064be5cf4ca33a1286ddca61d3e06e0195c97f99a6fed0c428bea", func := "drayman/draymanlaw06.ChunkReads", spec := "chunkReads", unfollowed := true, recurses := true, named := ["math/bits.deBruijn64tab"], apart := false, laid := [("math/bits.deBruijn64tab", laid_math_bits_deBruijn64tab)], narrowed := true }
def ChunkReadsUptoSaid : Prop := chunkReadsUptoRow.holds Tryd.pinned (OpenSpec.upto chunkReadsSpec)

/-- 'draymanlaw06.ChunkBack', WHERE WHAT IT READS IS OF BULK AT MOST 1048576: true; the input reads as it did. -/
def chunkBackUptoRow : OpenClaim := { program := "ythljlajdkdgieaadoor", sum := "96717ca41a6064be5cf4ca33a1286ddca61d3e06e0195c97f99a6fed0c428bea", func := "drayman/draymanlaw06.ChunkBack", spec := "chunkBack", unfollowed := true, recurses := true, named := ["math/bits.deBruijn64tab"], apart := false, laid := [("math/bits.deBruijn64tab", laid_math_bits_deBruijn64tab)], narrowed := true }
def ChunkBackUptoSaid : Prop := chunkBackUptoRow.holds Tryd.pinned (OpenSpec.upto chunkBackSpec)

/-- 'draymanlaw06.ChunkFronts', WHERE WHAT IT READS IS OF BULK AT MOST 1048576: true; the input reads as it did. -/
def chunkFrontsUptoRow : OpenClaim := { program := "ythljlajdkdgieaadoor", sum := "96717ca41a6064be5cf4ca33a1286ddca61d3e06e0195c97f99a6fed0c428bea", func := "drayman/draymanlaw06.ChunkFronts", spec := "chunkFronts", unfollowed := true, recurses := true, named := ["math/bits.deBruijn64tab"], apart := false, laid := [("math/bits.deBruijn64tab", laid_math_bits_deBruijn64tab)], narrowed := true }
def ChunkFrontsUptoSaid : Prop := chunkFrontsUptoRow.holds Tryd.pinned (OpenSpec.upto chunkFrontsSpec)

end Rows
end Go.Proofs.YthljlajdkdgieaaDoor
