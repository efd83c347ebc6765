import Derived.Test.YtnihngljmmbenaaGreatDoorGF
import Derived.Test.YtnihngljmmbenaaGreatDoorGG
import Derived.Test.YtnihngljmmbenaaGreatDoorHK
namespace Go.Proofs.YtnihngljmmbenaaGreatDoor
set_option linter.unusedVariables false
set_option linter.unusedSimpArgs false
section
open Go.RowKit
attribute [local go_sem] over_drew

abbrev rcpV (a : Option Addr) (n cap : Nat) (N : Int) (e : En) (er : Nat) : Value := .tuple #[bv a n cap N, e.v, .int .i64 (er : Nat)]
end
section
open Go.RowKit
attribute [local go_sem] over_drew

def RcpPost (w : World) (L : List Bool) (e : En) (en : Ending) (w' : World) : Prop :=
  ∃ a c, en = .returned (rcpV a (pack L).length c L.length e 0) ∧ (∃ x, w' = over w x) ∧ SlB w' a c (pack L)
def RcpOwn (w : World) (L : List Bool) (e : En) (en : Ending) (w' : World) : Prop :=
  ∃ a c, en = .returned (rcpV a (pack L).length c L.length e 0) ∧ (∃ x, w' = over w x) ∧ OwnB w.heap.size w' (.slice a (pack L).length c) (pack L)
end
end Go.Proofs.YtnihngljmmbenaaGreatDoor
