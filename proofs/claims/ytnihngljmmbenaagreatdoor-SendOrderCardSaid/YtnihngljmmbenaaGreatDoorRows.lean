/-
  NARROWER THAN 'FOR EVERY INPUT', by the rows' own cells (each row's printed sentence says how): SendRights: laid · SendNacks: laid · SendTells: laid · SendAgain: laid · SendOrder: laid · SendDoes: laid.
  DERIVED. THE GIVEN ROWS OF THIS SEAT. 6 by the template 'for every input the law returns true; each argument reads behind the call as it read before'; 0 by the template 'total and deterministic' (their statements: YtnihngljmmbenaaGreatDoorTotals.lean).
  GIVEN WITH THE SEED: the statements are not yours to turn. If you find one false, say at which input.
  Laid BY PROGRAM, IN A SANDBOX (cutbox-rows.mjs): the forced cells as the released guide's own fill.sh prints them over the translation 6fadbf56e5d1b6e8… (all of the seat's roots in one cut). By AI agents, Wed Nov 11 2026. No macro, syntax, notation, axiom, sorry.
-/
import Derived.Test.YtnihngljmmbenaaGreatDoorChecked
import GoSem.Claim
import GoSem.ClaimJoined
import GoSem.ClaimMapViews
import Derived.JoinedTies
import Derived.KernelRfl
namespace Go.Proofs.YtnihngljmmbenaaGreatDoor
/- THE CELL 'sum', in the pinned program and in every row, IS THE sha256 OF THE DUMP (.gsa) THAT YtnihngljmmbenaaGreatDoorProg.lean LOADS. Nothing in Lean hashes anything: it is a label: what it is worth is what the hold of that sum in a sandbox is worth. -/
noncomputable def Tryz.pinned : Pinned := { name := "ytnihngljmmbenaagreatdoor", sum := "6fadbf56e5d1b6e8fa163c9396b218141ad3603a84db667259d817b80e1ec7d1", checked := Tryz.checked }
namespace Rows
def none {H : Type} : Left H := { results := [], args := [] }

/- WHAT THE LISTED PACKAGE-LEVEL VARIABLES READ AS WHEN THE CALL BEGINS. Each datum BY PROGRAM (the guide's laid-datum.mjs) off the statement by which the dump's own 'gosem.cut.vars' lays the variable. In a bare row this is a premise. The card (YtnihngljmmbenaaGreatDoorCards.lean) ties it to the program's text. -/
def laid_math_bits_deBruijn64tab {H : Type} : DataW H := .agg [.lit (.int .u8 0), .lit (.int .u8 1), .lit (.int .u8 56), .lit (.int .u8 2), .lit (.int .u8 57), .lit (.int .u8 49), .lit (.int .u8 28), .lit (.int .u8 3), .lit (.int .u8 61), .lit (.int .u8 58), .lit (.int .u8 42), .lit (.int .u8 50), .lit (.int .u8 38), .lit (.int .u8 29), .lit (.int .u8 17), .lit (.int .u8 4), .lit (.int .u8 62), .lit (.int .u8 47), .lit (.int .u8 59), .lit (.int .u8 36), .lit (.int .u8 45), .lit (.int .u8 43), .lit (.int .u8 51), .lit (.int .u8 22), .lit (.int .u8 53), .lit (.int .u8 39), .lit (.int .u8 33), .lit (.int .u8 30), .lit (.int .u8 24), .lit (.int .u8 18), .lit (.int .u8 12), .lit (.int .u8 5), .lit (.int .u8 63), .lit (.int .u8 55), .lit (.int .u8 48), .lit (.int .u8 27), .lit (.int .u8 60), .lit (.int .u8 41), .lit (.int .u8 37), .lit (.int .u8 16), .lit (.int .u8 46), .lit (.int .u8 35), .lit (.int .u8 44), .lit (.int .u8 21), .lit (.int .u8 52), .lit (.int .u8 32), .lit (.int .u8 23), .lit (.int .u8 11), .lit (.int .u8 54), .lit (.int .u8 26), .lit (.int .u8 40), .lit (.int .u8 15), .lit (.int .u8 34), .lit (.int .u8 20), .lit (.int .u8 31), .lit (.int .u8 10), .lit (.int .u8 25), .lit (.int .u8 14), .lit (.int .u8 19), .lit (.int .u8 9), .lit (.int .u8 13), .lit (.int .u8 8), .lit (.int .u8 7), .lit (.int .u8 6)]

/-- 'draymanlaw15.SendRights': WHATEVER THE INPUT: true; the input reads as it did. -/
def sendRightsSpec : ChangeSpec := { name := "sendRights", fn := fun _ => fun
  | [d1, d2] => { results := [.lit (.bool true)], args := [d1, d2] }
  | _ => none }
def sendRightsRow : OpenClaim := { program := "ytnihngljmmbenaagreatdoor", sum := "6fadbf56e5d1b6e8fa163c9396b218141ad3603a84db667259d817b80e1ec7d1", func := "drayman/draymanlaw15.SendRights", spec := "sendRights", inPlace := ["sync/atomic.LoadInt64", "sync/atomic.AddInt64"], unfollowed := true, recurses := true, named := ["math/bits.deBruijn64tab", "math/bits.divideError", "math/bits.overflowError"], apart := false, laid := [("math/bits.deBruijn64tab", laid_math_bits_deBruijn64tab)] }
def SendRightsSaid : Prop := sendRightsRow.holds Tryz.pinned (OpenSpec.ofChange sendRightsSpec)

/-- ITS FALSE NEIGHBOUR: 'it returns false'. Refute it at one input. -/
def sendRightsWrong : ChangeSpec := { name := "sendRights", fn := fun _ => fun
  | [d1, d2] => { results := [.lit (.bool false)], args := [d1, d2] }
  | _ => none }
def SendRightsWrongFalsely : Prop := sendRightsRow.holds Tryz.pinned (OpenSpec.ofChange sendRightsWrong)

/-- 'draymanlaw15.SendNacks': WHATEVER THE INPUT: true; the input reads as it did. -/
def sendNacksSpec : ChangeSpec := { name := "sendNacks", fn := fun _ => fun
  | [d1, d2, d3, d4] => { results := [.lit (.bool true)], args := [d1, d2, d3, d4] }
  | _ => none }
def sendNacksRow : OpenClaim := { program := "ytnihngljmmbenaagreatdoor", sum := "6fadbf56e5d1b6e8fa163c9396b218141ad3603a84db667259d817b80e1ec7d1", func := "drayman/draymanlaw15.SendNacks", spec := "sendNacks", inPlace := ["sync/atomic.LoadInt64", "sync/atomic.AddInt64"], unfollowed := true, recurses := true, named := ["math/bits.deBruijn64tab", "math/bits.divideError", "math/bits.overflowError"], apart := false, laid := [("math/bits.deBruijn64tab", laid_math_bits_deBruijn64tab)] }
def SendNacksSaid : Prop := sendNacksRow.holds Tryz.pinned (OpenSpec.ofChange sendNacksSpec)

/-- ITS FALSE NEIGHBOUR: 'it returns false'. Refute it at one input. -/
def sendNacksWrong : ChangeSpec := { name := "sendNacks", fn := fun _ => fun
  | [d1, d2, d3, d4] => { results := [.lit (.bool false)], args := [d1, d2, d3, d4] }
  | _ => none }
def SendNacksWrongFalsely : Prop := sendNacksRow.holds Tryz.pinned (OpenSpec.ofChange sendNacksWrong)

/-- 'draymanlaw15.SendTells': WHATEVER THE INPUT: true; the input reads as it did. -/
def sendTellsSpec : ChangeSpec := { name := "sendTells", fn := fun _ => fun
  | [d1, d2, d3] => { results := [.lit (.bool true)], args := [d1, d2, d3] }
  | _ => none }
def sendTellsRow : OpenClaim := { program := "ytnihngljmmbenaagreatdoor", sum := "6fadbf56e5d1b6e8fa163c9396b218141ad3603a84db667259d817b80e1ec7d1", func := "drayman/draymanlaw15.SendTells", spec := "sendTells", inPlace := ["sync/atomic.LoadInt64", "sync/atomic.AddInt64"], unfollowed := true, recurses := true, named := ["math/bits.deBruijn64tab", "math/bits.divideError", "math/bits.overflowError"], apart := false, laid := [("math/bits.deBruijn64tab", laid_math_bits_deBruijn64tab)] }
def SendTellsSaid : Prop := sendTellsRow.holds Tryz.pinned (OpenSpec.ofChange sendTellsSpec)

/-- ITS FALSE NEIGHBOUR: 'it returns false'. Refute it at one input. -/
def sendTellsWrong : ChangeSpec := { name := "sendTells", fn := fun _ => fun
  | [d1, d2, d3] => { results := [.lit (.bool false)], args := [d1, d2, d3] }
  | _ => none }
def SendTellsWrongFalsely : Prop := sendTellsRow.holds Tryz.pinned (OpenSpec.ofChange sendTellsWrong)

/-- 'draymanlaw15.SendAgain': WHATEVER THE INPUT: true; the input reads as it did. -/
def sendAgainSpec : ChangeSpec := { name := "sendAgain", fn := fun _ => fun
  | [d1, d2, d3, d4, d5] => { results := [.lit (.bool true)], args := [d1, d2, d3, d4, d5] }
  | _ => none }
def sendAgainRow : OpenClaim := { program := "ytnihngljmmbenaagreatdoor", sum := "6fadbf56e5d1b6e8fa163c9396b218141ad3603a84db667259d817b80e1ec7d1", func := "drayman/draymanlaw15.SendAgain", spec := "sendAgain", inPlace := ["sync/atomic.LoadInt64", "sync/atomic.AddInt64"], unfollowed := true, recurses := true, named := ["math/bits.deBruijn64tab", "math/bits.divideError", "math/bits.overflowError"], apart := false, laid := [("math/bits.deBruijn64tab", laid_math_bits_deBruijn64tab)] }
def SendAgainSaid : Prop := sendAgainRow.holds Tryz.pinned (OpenSpec.ofChange sendAgainSpec)

/-- ITS FALSE NEIGHBOUR: 'it returns false'. Refute it at one input. -/
def sendAgainWrong : ChangeSpec := { name := "sendAgain", fn := fun _ => fun
  | [d1, d2, d3, d4, d5] => { results := [.lit (.bool false)], args := [d1, d2, d3, d4, d5] }
  | _ => none }
def SendAgainWrongFalsely : Prop := sendAgainRow.holds Tryz.pinned (OpenSpec.ofChange sendAgainWrong)

/-- 'draymanlaw15.SendOrder': WHATEVER THE INPUT: true; the input reads as it did. -/
def sendOrderSpec : ChangeSpec := { name := "sendOrder", fn := fun _ => fun
  | [d1, d2, d3] => { results := [.lit (.bool true)], args := [d1, d2, d3] }
  | _ => none }
def sendOrderRow : OpenClaim := { program := "ytnihngljmmbenaagreatdoor", sum := "6fadbf56e5d1b6e8fa163c9396b218141ad3603a84db667259d817b80e1ec7d1", func := "drayman/draymanlaw15.SendOrder", spec := "sendOrder", inPlace := ["sync/atomic.LoadInt64", "sync/atomic.AddInt64"], unfollowed := true, recurses := true, named := ["math/bits.deBruijn64tab", "math/bits.divideError", "math/bits.overflowError"], apart := false, laid := [("math/bits.deBruijn64tab", laid_math_bits_deBruijn64tab)] }
def SendOrderSaid : Prop := sendOrderRow.holds Tryz.pinned (OpenSpec.ofChange sendOrderSpec)

/-- ITS FALSE NEIGHBOUR: 'it returns false'. Refute it at one input. -/
def sendOrderWrong : ChangeSpec := { name := "sendOrder", fn := fun _ => fun
  | [d1, d2, d3] => { results := [.lit (.bool false)], args := [d1, d2, d3] }
  | _ => none }
def SendOrderWrongFalsely : Prop := sendOrderRow.holds Tryz.pinned (OpenSpec.ofChange sendOrderWrong)

/-- 'draymanlaw15.SendDoes': WHATEVER THE INPUT: true; the input reads as it did. -/
def sendDoesSpec : ChangeSpec := { name := "sendDoes", fn := fun _ => fun
  | [d1, d2, d3] => { results := [.lit (.bool true)], args := [d1, d2, d3] }
  | _ => none }
def sendDoesRow : OpenClaim := { program := "ytnihngljmmbenaagreatdoor", sum := "6fadbf56e5d1b6e8fa163c9396b218141ad3603a84db667259d817b80e1ec7d1", func := "drayman/draymanlaw15.SendDoes", spec := "sendDoes", inPlace := ["sync/atomic.LoadInt64", "sync/atomic.AddInt64"], unfollowed := true, recurses := true, named := ["math/bits.deBruijn64tab", "math/bits.divideError", "math/bits.overflowError"], apart := false, laid := [("math/bits.deBruijn64tab", laid_math_bits_deBruijn64tab)] }
def SendDoesSaid : Prop := sendDoesRow.holds Tryz.pinned (OpenSpec.ofChange sendDoesSpec)

/-- ITS FALSE NEIGHBOUR: 'it returns false'. Refute it at one input. -/
def sendDoesWrong : ChangeSpec := { name := "sendDoes", fn := fun _ => fun
  | [d1, d2, d3] => { results := [.lit (.bool false)], args := [d1, d2, d3] }
  | _ => none }
def SendDoesWrongFalsely : Prop := sendDoesRow.holds Tryz.pinned (OpenSpec.ofChange sendDoesWrong)

/- THE SECOND FORM. 'bulk': how many values and letters a reading holds, each counted each time it is reached (what is shared counts as often as it is met; a slice's spare places count too). A statement '..UptoSaid' is the law's where the arguments, and the package variables that the reading takes, are together of bulk at most 1048576: NARROWER than '..Said'. Prove '..Said' where nothing that the law and all that it calls make is longer than what came in: it says more and counts as full. Else prove '..UptoSaid'. A law counts once. -/
mutual
def uptoBulk {H : Type} : DataW H → Nat
  | .lit (.string bytes) => bytes.length + 1
  | .lit _ => 1
  | .nil => 1
  | .ptr d => uptoBulk d + 1
  | .slice elems spare => uptoBulkAll elems + uptoBulkAll spare + 1
  | .agg parts => uptoBulkAll parts + 1
  | .iface _ d => uptoBulk d + 1
  | .map entries => uptoBulkEntries entries + 1
  | .held _ => 1
def uptoBulkAll {H : Type} : List (DataW H) → Nat
  | [] => 0
  | d :: r => uptoBulk d + uptoBulkAll r
def uptoBulkEntries {H : Type} : List (Lit × DataW H) → Nat
  | [] => 0
  | x :: r => uptoBulkEntry x + uptoBulkEntries r
def uptoBulkEntry {H : Type} : Lit × DataW H → Nat
  | (.string bytes, d) => bytes.length + uptoBulk d + 1
  | (_, d) => uptoBulk d + 1
 end
def uptoSmall : (H : Type) → List (DataW H) → Bool := fun _ ds => decide (uptoBulkAll ds ≤ 1048576)
def OpenSpec.upto (s : _root_.Go.ChangeSpec) : _root_.Go.OpenSpec := { _root_.Go.OpenSpec.ofChange s with cond := some uptoSmall }

/-- 'draymanlaw15.SendRights', WHERE WHAT IT READS IS OF BULK AT MOST 1048576: true; the input reads as it did. -/
def sendRightsUptoRow : OpenClaim := { program := "ytnihngljmmbenaagreatdoor", sum := "6fadbf56e5d1b6e8fa163c9396b218141ad3603a84db667259d817b80e1ec7d1", func := "drayman/draymanlaw15.SendRights", spec := "sendRights", inPlace := ["sync/atomic.LoadInt64", "sync/atomic.AddInt64"], unfollowed := true, recurses := true, named := ["math/bits.deBruijn64tab", "math/bits.divideError", "math/bits.overflowError"], apart := false, laid := [("math/bits.deBruijn64tab", laid_math_bits_deBruijn64tab)], narrowed := true }
def SendRightsUptoSaid : Prop := sendRightsUptoRow.holds Tryz.pinned (OpenSpec.upto sendRightsSpec)

/-- 'draymanlaw15.SendNacks', WHERE WHAT IT READS IS OF BULK AT MOST 1048576: true; the input reads as it did. -/
def sendNacksUptoRow : OpenClaim := { program := "ytnihngljmmbenaagreatdoor", sum := "6fadbf56e5d1b6e8fa163c9396b218141ad3603a84db667259d817b80e1ec7d1", func := "drayman/draymanlaw15.SendNacks", spec := "sendNacks", inPlace := ["sync/atomic.LoadInt64", "sync/atomic.AddInt64"], unfollowed := true, recurses := true, named := ["math/bits.deBruijn64tab", "math/bits.divideError", "math/bits.overflowError"], apart := false, laid := [("math/bits.deBruijn64tab", laid_math_bits_deBruijn64tab)], narrowed := true }
def SendNacksUptoSaid : Prop := sendNacksUptoRow.holds Tryz.pinned (OpenSpec.upto sendNacksSpec)

/-- 'draymanlaw15.SendTells', WHERE WHAT IT READS IS OF BULK AT MOST 1048576: true; the input reads as it did. -/
def sendTellsUptoRow : OpenClaim := { program := "ytnihngljmmbenaagreatdoor", sum := "6fadbf56e5d1b6e8fa163c9396b218141ad3603a84db667259d817b80e1ec7d1", func := "drayman/draymanlaw15.SendTells", spec := "sendTells", inPlace := ["sync/atomic.LoadInt64", "sync/atomic.AddInt64"], unfollowed := true, recurses := true, named := ["math/bits.deBruijn64tab", "math/bits.divideError", "math/bits.overflowError"], apart := false, laid := [("math/bits.deBruijn64tab", laid_math_bits_deBruijn64tab)], narrowed := true }
def SendTellsUptoSaid : Prop := sendTellsUptoRow.holds Tryz.pinned (OpenSpec.upto sendTellsSpec)

/-- 'draymanlaw15.SendAgain', WHERE WHAT IT READS IS OF BULK AT MOST 1048576: true; the input reads as it did. -/
def sendAgainUptoRow : OpenClaim := { program := "ytnihngljmmbenaagreatdoor", sum := "6fadbf56e5d1b6e8fa163c9396b218141ad3603a84db667259d817b80e1ec7d1", func := "drayman/draymanlaw15.SendAgain", spec := "sendAgain", inPlace := ["sync/atomic.LoadInt64", "sync/atomic.AddInt64"], unfollowed := true, recurses := true, named := ["math/bits.deBruijn64tab", "math/bits.divideError", "math/bits.overflowError"], apart := false, laid := [("math/bits.deBruijn64tab", laid_math_bits_deBruijn64tab)], narrowed := true }
def SendAgainUptoSaid : Prop := sendAgainUptoRow.holds Tryz.pinned (OpenSpec.upto sendAgainSpec)

/-- 'draymanlaw15.SendOrder', WHERE WHAT IT READS IS OF BULK AT MOST 1048576: true; the input reads as it did. -/
def sendOrderUptoRow : OpenClaim := { program := "ytnihngljmmbenaagreatdoor", sum := "6fadbf56e5d1b6e8fa163c9396b218141ad3603a84db667259d817b80e1ec7d1", func := "drayman/draymanlaw15.SendOrder", spec := "sendOrder", inPlace := ["sync/atomic.LoadInt64", "sync/atomic.AddInt64"], unfollowed := true, recurses := true, named := ["math/bits.deBruijn64tab", "math/bits.divideError", "math/bits.overflowError"], apart := false, laid := [("math/bits.deBruijn64tab", laid_math_bits_deBruijn64tab)], narrowed := true }
def SendOrderUptoSaid : Prop := sendOrderUptoRow.holds Tryz.pinned (OpenSpec.upto sendOrderSpec)

/-- 'draymanlaw15.SendDoes', WHERE WHAT IT READS IS OF BULK AT MOST 1048576: true; the input reads as it did. -/
def sendDoesUptoRow : OpenClaim := { program := "ytnihngljmmbenaagreatdoor", sum := "6fadbf56e5d1b6e8fa163c9396b218141ad3603a84db667259d817b80e1ec7d1", func := "drayman/draymanlaw15.SendDoes", spec := "sendDoes", inPlace := ["sync/atomic.LoadInt64", "sync/atomic.AddInt64"], unfollowed := true, recurses := true, named := ["math/bits.deBruijn64tab", "math/bits.divideError", "math/bits.overflowError"], apart := false, laid := [("math/bits.deBruijn64tab", laid_math_bits_deBruijn64tab)], narrowed := true }
def SendDoesUptoSaid : Prop := sendDoesUptoRow.holds Tryz.pinned (OpenSpec.upto sendDoesSpec)

end Rows
end Go.Proofs.YtnihngljmmbenaaGreatDoor
