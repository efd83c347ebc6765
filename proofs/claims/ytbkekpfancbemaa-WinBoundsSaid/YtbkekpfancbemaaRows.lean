/-
  No cell of these rows narrows 'for every input' (looked for: loops, veiled, ifaces, maps, wideKeys, modest, calm, conditions, laid).
  DERIVED. THE GIVEN ROWS OF THIS SEAT. 12 by the template 'for every input the law returns true; each argument reads behind the call as it read before'; 0 by the template 'total and deterministic' (their statements: YtbkekpfancbemaaTotals.lean).
  GIVEN WITH THE SEED: the statements are not yours to turn. If you find one false, say at which input.
  Laid BY PROGRAM, IN A SANDBOX (cutbox-rows.mjs): the forced cells as the released guide's own fill.sh prints them over the translation 410702fed0244579… (all of the seat's roots in one cut). By AI agents, Wed Nov 11 2026. No macro, syntax, notation, axiom, sorry.
-/
import Derived.Test.YtbkekpfancbemaaChecked
import GoSem.Claim
import GoSem.ClaimJoined
import GoSem.ClaimMapViews
import Derived.JoinedTies
import Derived.KernelRfl
namespace Go.Proofs.Ytbkekpfancbemaa
/- THE CELL 'sum', in the pinned program and in every row, IS THE sha256 OF THE DUMP (.gsa) THAT YtbkekpfancbemaaProg.lean LOADS. Nothing in Lean hashes anything: it is a label: what it is worth is what the hold of that sum in a sandbox is worth. -/
noncomputable def Try.pinned : Pinned := { name := "ytbkekpfancbemaa", sum := "410702fed024457946a61f8fedc4fbdfc7e923ed96bc954c7afefd0bb314eaf4", checked := Try.checked }
namespace Rows
def none {H : Type} : Left H := { results := [], args := [] }

/-- 'draymanlaw13.WinBefore': WHATEVER THE INPUT: true; the input reads as it did. -/
def winBeforeSpec : ChangeSpec := { name := "winBefore", fn := fun _ => fun
  | [d1, d2] => { results := [.lit (.bool true)], args := [d1, d2] }
  | _ => none }
def winBeforeRow : OpenClaim := { program := "ytbkekpfancbemaa", sum := "410702fed024457946a61f8fedc4fbdfc7e923ed96bc954c7afefd0bb314eaf4", func := "drayman/draymanlaw13.WinBefore", spec := "winBefore", inPlace := ["sync/atomic.LoadInt64", "sync/atomic.AddInt64"], unfollowed := true, recurses := true, apart := false }
def WinBeforeSaid : Prop := winBeforeRow.holds Try.pinned (OpenSpec.ofChange winBeforeSpec)

/-- ITS FALSE NEIGHBOUR: 'it returns false'. Refute it at one input. -/
def winBeforeWrong : ChangeSpec := { name := "winBefore", fn := fun _ => fun
  | [d1, d2] => { results := [.lit (.bool false)], args := [d1, d2] }
  | _ => none }
def WinBeforeWrongFalsely : Prop := winBeforeRow.holds Try.pinned (OpenSpec.ofChange winBeforeWrong)

/-- 'draymanlaw13.WinOrder': WHATEVER THE INPUT: true; the input reads as it did. -/
def winOrderSpec : ChangeSpec := { name := "winOrder", fn := fun _ => fun
  | [d] => { results := [.lit (.bool true)], args := [d] }
  | _ => none }
def winOrderRow : OpenClaim := { program := "ytbkekpfancbemaa", sum := "410702fed024457946a61f8fedc4fbdfc7e923ed96bc954c7afefd0bb314eaf4", func := "drayman/draymanlaw13.WinOrder", spec := "winOrder", inPlace := ["sync/atomic.LoadInt64", "sync/atomic.AddInt64"], unfollowed := true, recurses := true, apart := false }
def WinOrderSaid : Prop := winOrderRow.holds Try.pinned (OpenSpec.ofChange winOrderSpec)

/-- ITS FALSE NEIGHBOUR: 'it returns false'. Refute it at one input. -/
def winOrderWrong : ChangeSpec := { name := "winOrder", fn := fun _ => fun
  | [d] => { results := [.lit (.bool false)], args := [d] }
  | _ => none }
def WinOrderWrongFalsely : Prop := winOrderRow.holds Try.pinned (OpenSpec.ofChange winOrderWrong)

/-- 'draymanlaw13.WinDoes': WHATEVER THE INPUT: true; the input reads as it did. -/
def winDoesSpec : ChangeSpec := { name := "winDoes", fn := fun _ => fun
  | [d1, d2] => { results := [.lit (.bool true)], args := [d1, d2] }
  | _ => none }
def winDoesRow : OpenClaim := { program := "ytbkekpfancbemaa", sum := "410702fed024457946a61f8fedc4fbdfc7e923ed96bc954c7afefd0bb314eaf4", func := "drayman/draymanlaw13.WinDoes", spec := "winDoes", inPlace := ["sync/atomic.LoadInt64", "sync/atomic.AddInt64"], unfollowed := true, recurses := true, apart := false }
def WinDoesSaid : Prop := winDoesRow.holds Try.pinned (OpenSpec.ofChange winDoesSpec)

/-- ITS FALSE NEIGHBOUR: 'it returns false'. Refute it at one input. -/
def winDoesWrong : ChangeSpec := { name := "winDoes", fn := fun _ => fun
  | [d1, d2] => { results := [.lit (.bool false)], args := [d1, d2] }
  | _ => none }
def WinDoesWrongFalsely : Prop := winDoesRow.holds Try.pinned (OpenSpec.ofChange winDoesWrong)

/-- 'draymanlaw13.WinBounds': WHATEVER THE INPUT: true; the input reads as it did. -/
def winBoundsSpec : ChangeSpec := { name := "winBounds", fn := fun _ => fun
  | [d1, d2] => { results := [.lit (.bool true)], args := [d1, d2] }
  | _ => none }
def winBoundsRow : OpenClaim := { program := "ytbkekpfancbemaa", sum := "410702fed024457946a61f8fedc4fbdfc7e923ed96bc954c7afefd0bb314eaf4", func := "drayman/draymanlaw13.WinBounds", spec := "winBounds", inPlace := ["sync/atomic.LoadInt64", "sync/atomic.AddInt64"], unfollowed := true, recurses := true, apart := false }
def WinBoundsSaid : Prop := winBoundsRow.holds Try.pinned (OpenSpec.ofChange winBoundsSpec)

/-- ITS FALSE NEIGHBOUR: 'it returns false'. Refute it at one input. -/
def winBoundsWrong : ChangeSpec := { name := "winBounds", fn := fun _ => fun
  | [d1, d2] => { results := [.lit (.bool false)], args := [d1, d2] }
  | _ => none }
def WinBoundsWrongFalsely : Prop := winBoundsRow.holds Try.pinned (OpenSpec.ofChange winBoundsWrong)

/-- 'draymanlaw13.WinEnds': WHATEVER THE INPUT: true; the input reads as it did. -/
def winEndsSpec : ChangeSpec := { name := "winEnds", fn := fun _ => fun
  | [d1, d2, d3] => { results := [.lit (.bool true)], args := [d1, d2, d3] }
  | _ => none }
def winEndsRow : OpenClaim := { program := "ytbkekpfancbemaa", sum := "410702fed024457946a61f8fedc4fbdfc7e923ed96bc954c7afefd0bb314eaf4", func := "drayman/draymanlaw13.WinEnds", spec := "winEnds", inPlace := ["sync/atomic.LoadInt64", "sync/atomic.AddInt64"], unfollowed := true, recurses := true, apart := false }
def WinEndsSaid : Prop := winEndsRow.holds Try.pinned (OpenSpec.ofChange winEndsSpec)

/-- ITS FALSE NEIGHBOUR: 'it returns false'. Refute it at one input. -/
def winEndsWrong : ChangeSpec := { name := "winEnds", fn := fun _ => fun
  | [d1, d2, d3] => { results := [.lit (.bool false)], args := [d1, d2, d3] }
  | _ => none }
def WinEndsWrongFalsely : Prop := winEndsRow.holds Try.pinned (OpenSpec.ofChange winEndsWrong)

/-- 'draymanlaw23.SpanAdds': WHATEVER THE INPUT: true; the input reads as it did. -/
def spanAddsSpec : ChangeSpec := { name := "spanAdds", fn := fun _ => fun
  | [d1, d2] => { results := [.lit (.bool true)], args := [d1, d2] }
  | _ => none }
def spanAddsRow : OpenClaim := { program := "ytbkekpfancbemaa", sum := "410702fed024457946a61f8fedc4fbdfc7e923ed96bc954c7afefd0bb314eaf4", func := "drayman/draymanlaw23.SpanAdds", spec := "spanAdds", unfollowed := true, recurses := true, apart := false }
def SpanAddsSaid : Prop := spanAddsRow.holds Try.pinned (OpenSpec.ofChange spanAddsSpec)

/-- ITS FALSE NEIGHBOUR: 'it returns false'. Refute it at one input. -/
def spanAddsWrong : ChangeSpec := { name := "spanAdds", fn := fun _ => fun
  | [d1, d2] => { results := [.lit (.bool false)], args := [d1, d2] }
  | _ => none }
def SpanAddsWrongFalsely : Prop := spanAddsRow.holds Try.pinned (OpenSpec.ofChange spanAddsWrong)

/-- 'draymanlaw23.SpanOrder': WHATEVER THE INPUT: true; the input reads as it did. -/
def spanOrderSpec : ChangeSpec := { name := "spanOrder", fn := fun _ => fun
  | [d1, d2] => { results := [.lit (.bool true)], args := [d1, d2] }
  | _ => none }
def spanOrderRow : OpenClaim := { program := "ytbkekpfancbemaa", sum := "410702fed024457946a61f8fedc4fbdfc7e923ed96bc954c7afefd0bb314eaf4", func := "drayman/draymanlaw23.SpanOrder", spec := "spanOrder", unfollowed := true, recurses := true, apart := false }
def SpanOrderSaid : Prop := spanOrderRow.holds Try.pinned (OpenSpec.ofChange spanOrderSpec)

/-- ITS FALSE NEIGHBOUR: 'it returns false'. Refute it at one input. -/
def spanOrderWrong : ChangeSpec := { name := "spanOrder", fn := fun _ => fun
  | [d1, d2] => { results := [.lit (.bool false)], args := [d1, d2] }
  | _ => none }
def SpanOrderWrongFalsely : Prop := spanOrderRow.holds Try.pinned (OpenSpec.ofChange spanOrderWrong)

/-- 'draymanlaw23.SpanSounds': WHATEVER THE INPUT: true; the input reads as it did. -/
def spanSoundsSpec : ChangeSpec := { name := "spanSounds", fn := fun _ => fun
  | [d1, d2] => { results := [.lit (.bool true)], args := [d1, d2] }
  | _ => none }
def spanSoundsRow : OpenClaim := { program := "ytbkekpfancbemaa", sum := "410702fed024457946a61f8fedc4fbdfc7e923ed96bc954c7afefd0bb314eaf4", func := "drayman/draymanlaw23.SpanSounds", spec := "spanSounds", unfollowed := true, recurses := true, apart := false }
def SpanSoundsSaid : Prop := spanSoundsRow.holds Try.pinned (OpenSpec.ofChange spanSoundsSpec)

/-- ITS FALSE NEIGHBOUR: 'it returns false'. Refute it at one input. -/
def spanSoundsWrong : ChangeSpec := { name := "spanSounds", fn := fun _ => fun
  | [d1, d2] => { results := [.lit (.bool false)], args := [d1, d2] }
  | _ => none }
def SpanSoundsWrongFalsely : Prop := spanSoundsRow.holds Try.pinned (OpenSpec.ofChange spanSoundsWrong)

/-- 'draymanlaw23.SpanSets': WHATEVER THE INPUT: true; the input reads as it did. -/
def spanSetsSpec : ChangeSpec := { name := "spanSets", fn := fun _ => fun
  | [d1, d2, d3] => { results := [.lit (.bool true)], args := [d1, d2, d3] }
  | _ => none }
def spanSetsRow : OpenClaim := { program := "ytbkekpfancbemaa", sum := "410702fed024457946a61f8fedc4fbdfc7e923ed96bc954c7afefd0bb314eaf4", func := "drayman/draymanlaw23.SpanSets", spec := "spanSets", unfollowed := true, recurses := true, apart := false }
def SpanSetsSaid : Prop := spanSetsRow.holds Try.pinned (OpenSpec.ofChange spanSetsSpec)

/-- ITS FALSE NEIGHBOUR: 'it returns false'. Refute it at one input. -/
def spanSetsWrong : ChangeSpec := { name := "spanSets", fn := fun _ => fun
  | [d1, d2, d3] => { results := [.lit (.bool false)], args := [d1, d2, d3] }
  | _ => none }
def SpanSetsWrongFalsely : Prop := spanSetsRow.holds Try.pinned (OpenSpec.ofChange spanSetsWrong)

/-- 'draymanlaw23.SpanTurns': WHATEVER THE INPUT: true; the input reads as it did. -/
def spanTurnsSpec : ChangeSpec := { name := "spanTurns", fn := fun _ => fun
  | [d1, d2] => { results := [.lit (.bool true)], args := [d1, d2] }
  | _ => none }
def spanTurnsRow : OpenClaim := { program := "ytbkekpfancbemaa", sum := "410702fed024457946a61f8fedc4fbdfc7e923ed96bc954c7afefd0bb314eaf4", func := "drayman/draymanlaw23.SpanTurns", spec := "spanTurns", unfollowed := true, recurses := true, apart := false }
def SpanTurnsSaid : Prop := spanTurnsRow.holds Try.pinned (OpenSpec.ofChange spanTurnsSpec)

/-- ITS FALSE NEIGHBOUR: 'it returns false'. Refute it at one input. -/
def spanTurnsWrong : ChangeSpec := { name := "spanTurns", fn := fun _ => fun
  | [d1, d2] => { results := [.lit (.bool false)], args := [d1, d2] }
  | _ => none }
def SpanTurnsWrongFalsely : Prop := spanTurnsRow.holds Try.pinned (OpenSpec.ofChange spanTurnsWrong)

/-- 'draymanlaw23.SpanMeets': WHATEVER THE INPUT: true; the input reads as it did. -/
def spanMeetsSpec : ChangeSpec := { name := "spanMeets", fn := fun _ => fun
  | [d1, d2] => { results := [.lit (.bool true)], args := [d1, d2] }
  | _ => none }
def spanMeetsRow : OpenClaim := { program := "ytbkekpfancbemaa", sum := "410702fed024457946a61f8fedc4fbdfc7e923ed96bc954c7afefd0bb314eaf4", func := "drayman/draymanlaw23.SpanMeets", spec := "spanMeets", unfollowed := true, recurses := true, apart := false }
def SpanMeetsSaid : Prop := spanMeetsRow.holds Try.pinned (OpenSpec.ofChange spanMeetsSpec)

/-- ITS FALSE NEIGHBOUR: 'it returns false'. Refute it at one input. -/
def spanMeetsWrong : ChangeSpec := { name := "spanMeets", fn := fun _ => fun
  | [d1, d2] => { results := [.lit (.bool false)], args := [d1, d2] }
  | _ => none }
def SpanMeetsWrongFalsely : Prop := spanMeetsRow.holds Try.pinned (OpenSpec.ofChange spanMeetsWrong)

/-- 'draymanlaw23.SpanCounts': WHATEVER THE INPUT: true; the input reads as it did. -/
def spanCountsSpec : ChangeSpec := { name := "spanCounts", fn := fun _ => fun
  | [d1, d2, d3] => { results := [.lit (.bool true)], args := [d1, d2, d3] }
  | _ => none }
def spanCountsRow : OpenClaim := { program := "ytbkekpfancbemaa", sum := "410702fed024457946a61f8fedc4fbdfc7e923ed96bc954c7afefd0bb314eaf4", func := "drayman/draymanlaw23.SpanCounts", spec := "spanCounts", unfollowed := true, recurses := true, apart := false }
def SpanCountsSaid : Prop := spanCountsRow.holds Try.pinned (OpenSpec.ofChange spanCountsSpec)

/-- ITS FALSE NEIGHBOUR: 'it returns false'. Refute it at one input. -/
def spanCountsWrong : ChangeSpec := { name := "spanCounts", fn := fun _ => fun
  | [d1, d2, d3] => { results := [.lit (.bool false)], args := [d1, d2, d3] }
  | _ => none }
def SpanCountsWrongFalsely : Prop := spanCountsRow.holds Try.pinned (OpenSpec.ofChange spanCountsWrong)

/- THE SECOND FORM. 'bulk': how many values and letters a reading holds, each counted each time it is reached (what is shared counts as often as it is met; a slice's spare places count too). A statement '..UptoSaid' is the law's where the arguments, and the package variables that the reading takes, are together of bulk at most 1048576: NARROWER than '..Said'. Prove '..Said' where nothing that the law and all that it calls make is longer than what came in: it says more and counts as full. Else prove '..UptoSaid'. A law counts once. -/
mutual
def uptoBulk {H : Type} : DataW H → Nat
  | .lit (.string bytes) => bytes.length + 1
  | .lit _ => 1
  | .nil => 1
  | .ptr d => uptoBulk d + 1
  | .slice elems spare => uptoBulkAll elems + uptoBulkAll spare + 1
  | .agg parts => uptoBulkAll parts + 1
  | .iface _ d => uptoBulk d + 1
  | .map entries => uptoBulkEntries entries + 1
  | .held _ => 1
def uptoBulkAll {H : Type} : List (DataW H) → Nat
  | [] => 0
  | d :: r => uptoBulk d + uptoBulkAll r
def uptoBulkEntries {H : Type} : List (Lit × DataW H) → Nat
  | [] => 0
  | x :: r => uptoBulkEntry x + uptoBulkEntries r
def uptoBulkEntry {H : Type} : Lit × DataW H → Nat
  | (.string bytes, d) => bytes.length + uptoBulk d + 1
  | (_, d) => uptoBulk d + 1
 end
def uptoSmall : (H : Type) → List (DataW H) → Bool := fun _ ds => decide (uptoBulkAll ds ≤ 1048576)
def OpenSpec.upto (s : _root_.Go.ChangeSpec) : _root_.Go.OpenSpec := { _root_.Go.OpenSpec.ofChange s with cond := some uptoSmall }

/-- 'draymanlaw13.WinBefore', WHERE WHAT IT READS IS OF BULK AT MOST 1048576: true; the input reads as it did. -/
def winBeforeUptoRow : OpenClaim := { program := "ytbkekpfancbemaa", sum := "410702fed024457946a61f8fedc4fbdfc7e923ed96bc954c7afefd0bb314eaf4", func := "drayman/draymanlaw13.WinBefore", spec := "winBefore", inPlace := ["sync/atomic.LoadInt64", "sync/atomic.AddInt64"], unfollowed := true, recurses := true, apart := false, narrowed := true }
def WinBeforeUptoSaid : Prop := winBeforeUptoRow.holds Try.pinned (OpenSpec.upto winBeforeSpec)

/-- 'draymanlaw13.WinOrder', WHERE WHAT IT READS IS OF BULK AT MOST 1048576: true; the input reads as it did. -/
def winOrderUptoRow : OpenClaim := { program := "ytbkekpfancbemaa", sum := "410702fed024457946a61f8fedc4fbdfc7e923ed96bc954c7afefd0bb314eaf4", func := "drayman/draymanlaw13.WinOrder", spec := "winOrder", inPlace := ["sync/atomic.LoadInt64", "sync/atomic.AddInt64"], unfollowed := true, recurses := true, apart := false, narrowed := true }
def WinOrderUptoSaid : Prop := winOrderUptoRow.holds Try.pinned (OpenSpec.upto winOrderSpec)

/-- 'draymanlaw13.WinDoes', WHERE WHAT IT READS IS OF BULK AT MOST 1048576: true; the input reads as it did. -/
def winDoesUptoRow : OpenClaim := { program := "ytbkekpfancbemaa", sum := "410702fed024457946a61f8fedc4fbdfc7e923ed96bc954c7afefd0bb314eaf4", func := "drayman/draymanlaw13.WinDoes", spec := "winDoes", inPlace := ["sync/atomic.LoadInt64", "sync/atomic.AddInt64"], unfollowed := true, recurses := true, apart := false, narrowed := true }
def WinDoesUptoSaid : Prop := winDoesUptoRow.holds Try.pinned (OpenSpec.upto winDoesSpec)

/-- 'draymanlaw13.WinBounds', WHERE WHAT IT READS IS OF BULK AT MOST 1048576: true; the input reads as it did. -/
def winBoundsUptoRow : OpenClaim := { program := "ytbkekpfancbemaa", sum := "410702fed024457946a61f8fedc4fbdfc7e923ed96bc954c7afefd0bb314eaf4", func := "drayman/draymanlaw13.WinBounds", spec := "winBounds", inPlace := ["sync/atomic.LoadInt64", "sync/atomic.AddInt64"], unfollowed := true, recurses := true, apart := false, narrowed := true }
def WinBoundsUptoSaid : Prop := winBoundsUptoRow.holds Try.pinned (OpenSpec.upto winBoundsSpec)

/-- 'draymanlaw13.WinEnds', WHERE WHAT IT READS IS OF BULK AT MOST 1048576: true; the input reads as it did. -/
def winEndsUptoRow : OpenClaim := { program := "ytbkekpfancbemaa", sum := "410702fed024457946a61f8fedc4fbdfc7e923ed96bc954c7afefd0bb314eaf4", func := "drayman/draymanlaw13.WinEnds", spec := "winEnds", inPlace := ["sync/atomic.LoadInt64", "sync/atomic.AddInt64"], unfollowed := true, recurses := true, apart := false, narrowed := true }
def WinEndsUptoSaid : Prop := winEndsUptoRow.holds Try.pinned (OpenSpec.upto winEndsSpec)

/-- 'draymanlaw23.SpanAdds', WHERE WHAT IT READS IS OF BULK AT MOST 1048576: true; the input reads as it did. -/
def spanAddsUptoRow : OpenClaim := { program := "ytbkekpfancbemaa", sum := "410702fed024457946a61f8fedc4fbdfc7e923ed96bc954c7afefd0bb314eaf4", func := "drayman/draymanlaw23.SpanAdds", spec := "spanAdds", unfollowed := true, recurses := true, apart := false, narrowed := true }
def SpanAddsUptoSaid : Prop := spanAddsUptoRow.holds Try.pinned (OpenSpec.upto spanAddsSpec)

/-- 'draymanlaw23.SpanOrder', WHERE WHAT IT READS IS OF BULK AT MOST 1048576: true; the input reads as it did. -/
def spanOrderUptoRow : OpenClaim := { program := "ytbkekpfancbemaa", sum := "410702fed024457946a61f8fedc4fbdfc7e923ed96bc954c7afefd0bb314eaf4", func := "drayman/draymanlaw23.SpanOrder", spec := "spanOrder", unfollowed := true, recurses := true, apart := false, narrowed := true }
def SpanOrderUptoSaid : Prop := spanOrderUptoRow.holds Try.pinned (OpenSpec.upto spanOrderSpec)

/-- 'draymanlaw23.SpanSounds', WHERE WHAT IT READS IS OF BULK AT MOST 1048576: true; the input reads as it did. -/
def spanSoundsUptoRow : OpenClaim := { program := "ytbkekpfancbemaa", sum := "410702fed024457946a61f8fedc4fbdfc7e923ed96bc954c7afefd0bb314eaf4", func := "drayman/draymanlaw23.SpanSounds", spec := "spanSounds", unfollowed := true, recurses := true, apart := false, narrowed := true }
def SpanSoundsUptoSaid : Prop := spanSoundsUptoRow.holds Try.pinned (OpenSpec.upto spanSoundsSpec)

/-- 'draymanlaw23.SpanSets', WHERE WHAT IT READS IS OF BULK AT MOST 1048576: true; the input reads as it did. -/
def spanSetsUptoRow : OpenClaim := { program := "ytbkekpfancbemaa", sum := "410702fed024457946a61f8fedc4fbdfc7e923ed96bc954c7afefd0bb314eaf4", func := "drayman/draymanlaw23.SpanSets", spec := "spanSets", unfollowed := true, recurses := true, apart := false, narrowed := true }
def SpanSetsUptoSaid : Prop := spanSetsUptoRow.holds Try.pinned (OpenSpec.upto spanSetsSpec)

/-- 'draymanlaw23.SpanTurns', WHERE WHAT IT READS IS OF BULK AT MOST 1048576: true; the input reads as it did. -/
def spanTurnsUptoRow : OpenClaim := { program := "ytbkekpfancbemaa", sum := "410702fed024457946a61f8fedc4fbdfc7e923ed96bc954c7afefd0bb314eaf4", func := "drayman/draymanlaw23.SpanTurns", spec := "spanTurns", unfollowed := true, recurses := true, apart := false, narrowed := true }
def SpanTurnsUptoSaid : Prop := spanTurnsUptoRow.holds Try.pinned (OpenSpec.upto spanTurnsSpec)

/-- 'draymanlaw23.SpanMeets', WHERE WHAT IT READS IS OF BULK AT MOST 1048576: true; the input reads as it did. -/
def spanMeetsUptoRow : OpenClaim := { program := "ytbkekpfancbemaa", sum := "410702fed024457946a61f8fedc4fbdfc7e923ed96bc954c7afefd0bb314eaf4", func := "drayman/draymanlaw23.SpanMeets", spec := "spanMeets", unfollowed := true, recurses := true, apart := false, narrowed := true }
def SpanMeetsUptoSaid : Prop := spanMeetsUptoRow.holds Try.pinned (OpenSpec.upto spanMeetsSpec)

/-- 'draymanlaw23.SpanCounts', WHERE WHAT IT READS IS OF BULK AT MOST 1048576: true; the input reads as it did. -/
def spanCountsUptoRow : OpenClaim := { program := "ytbkekpfancbemaa", sum := "410702fed024457946a61f8fedc4fbdfc7e923ed96bc954c7afefd0bb314eaf4", func := "drayman/draymanlaw23.SpanCounts", spec := "spanCounts", unfollowed := true, recurses := true, apart := false, narrowed := true }
def SpanCountsUptoSaid : Prop := spanCountsUptoRow.holds Try.pinned (OpenSpec.upto spanCountsSpec)

end Rows
end Go.Proofs.Ytbkekpfancbemaa
