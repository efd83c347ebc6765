/- Texts merged: RxA, RefP, RzP. -/
import Derived.Test.YtneeikjiabpjhaaGreatDoorGC
import Derived.Test.YtneeikjiabpjhaaGreatDoorGA
import Derived.Test.YtneeikjiabpjhaaGreatDoorGB
import Derived.Test.YtneeikjiabpjhaaGreatDoorGN
import Derived.Test.YtneeikjiabpjhaaGreatDoorRbO
import Derived.Test.YtneeikjiabpjhaaGreatDoorGD
namespace Go.Proofs.YtneeikjiabpjhaaGreatDoor
set_option linter.unusedVariables false
set_option linter.unusedSimpArgs false
open Go.RowKit

def PutL (B : World) (base : Nat) (xs : List Bool) (en : Ending) (w' : World) : Prop := (∃ e, w' = over B e) ∧ ∃ v, en = .returned v ∧ OwnT base w' v xs

/-! ### written -/

def RwPost (w : World) (L : List Bool) (t : Vl) (en : Ending) (w' : World) : Prop := ∃ v, en = .returned (.tuple #[v, t.v]) ∧ (∃ e, w' = over w e) ∧ OwnT w.heap.size w' v L

end Go.Proofs.YtneeikjiabpjhaaGreatDoor
namespace Go.Proofs.YtneeikjiabpjhaaGreatDoor
set_option linter.unusedVariables false
set_option linter.unusedSimpArgs false
open Go.RowKit
attribute [local go_sem] over_drew

end Go.Proofs.YtneeikjiabpjhaaGreatDoor
namespace Go.Proofs.YtneeikjiabpjhaaGreatDoor
set_option linter.unusedVariables false
set_option linter.unusedSimpArgs false
open Go.RowKit
attribute [local go_sem] over_drew

def RzPost (w : World) (L : List Bool) (en : Ending) (w' : World) : Prop :=
  ∃ a c, en = .returned (.tuple #[bv a (pack L).length c L.length, .int .i64 0]) ∧ (∃ e, w' = over w e) ∧ SlB w' a c (pack L)

end Go.Proofs.YtneeikjiabpjhaaGreatDoor
