import Derived.Test.YtnihngljmmbenaaGreatDoorGB
import Derived.Test.YtnihngljmmbenaaGreatDoorGA
namespace Go.Proofs.YtnihngljmmbenaaGreatDoor
set_option linter.unusedVariables false
set_option linter.unusedSimpArgs false
section
open Go.RowKit
def RbOwn (w : World) (L : List Bool) (en : Ending) (w' : World) : Prop :=
  ∃ a c, en = .returned (.tuple #[bv a (pack L).length c L.length, .int .i64 0]) ∧ (∃ e, w' = over w e) ∧ OwnB w.heap.size w' (.slice a (pack L).length c) (pack L)
end
section
open Go.RowKit

abbrev rgetV (p : Nat × Nat) : Value := .tuple #[.int .u64 (p.1 : Nat), .int .i64 (p.2 : Nat)]
end
section
open Go.RowKit

def RcPost (w : World) (L : List Bool) (en : Ending) (w' : World) : Prop :=
  ∃ a c, en = .returned (.tuple #[bv a (pack L).length c L.length, .int .i64 0]) ∧ (∃ e, w' = over w e) ∧ SlB w' a c (pack L)
end
end Go.Proofs.YtnihngljmmbenaaGreatDoor
