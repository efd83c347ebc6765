import Derived.Test.YtnihngljmmbenaaGreatDoorGC
import Derived.Test.YtnihngljmmbenaaGreatDoorGA
import Derived.Test.YtnihngljmmbenaaGreatDoorGB
import Derived.Test.YtnihngljmmbenaaGreatDoorGN
import Derived.Test.YtnihngljmmbenaaGreatDoorGD
namespace Go.Proofs.YtnihngljmmbenaaGreatDoor
set_option linter.unusedVariables false
set_option linter.unusedSimpArgs false
section
open Go.RowKit

def PutL (B : World) (base : Nat) (xs : List Bool) (en : Ending) (w' : World) : Prop := (∃ e, w' = over B e) ∧ ∃ v, en = .returned v ∧ OwnT base w' v xs

/-! ### written -/

def RwPost (w : World) (L : List Bool) (t : Vl) (en : Ending) (w' : World) : Prop := ∃ v, en = .returned (.tuple #[v, t.v]) ∧ (∃ e, w' = over w e) ∧ OwnT w.heap.size w' v L
end
section
open Go.RowKit
attribute [local go_sem] over_drew
end
section
open Go.RowKit
attribute [local go_sem] over_drew

def RzPost (w : World) (L : List Bool) (en : Ending) (w' : World) : Prop :=
  ∃ a c, en = .returned (.tuple #[bv a (pack L).length c L.length, .int .i64 0]) ∧ (∃ e, w' = over w e) ∧ SlB w' a c (pack L)
end
end Go.Proofs.YtnihngljmmbenaaGreatDoor
