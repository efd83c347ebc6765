/- Texts merged: RefG, RefC. -/
import Derived.Test.YtneeikjiabpjhaaGreatDoorGB
import Derived.Test.YtneeikjiabpjhaaGreatDoorGA
namespace Go.Proofs.YtneeikjiabpjhaaGreatDoor
set_option linter.unusedVariables false
set_option linter.unusedSimpArgs false
open Go.RowKit

abbrev rgetV (p : Nat × Nat) : Value := .tuple #[.int .u64 (p.1 : Nat), .int .i64 (p.2 : Nat)]

end Go.Proofs.YtneeikjiabpjhaaGreatDoor
namespace Go.Proofs.YtneeikjiabpjhaaGreatDoor
set_option linter.unusedVariables false
set_option linter.unusedSimpArgs false
open Go.RowKit

def RcPost (w : World) (L : List Bool) (en : Ending) (w' : World) : Prop :=
  ∃ a c, en = .returned (.tuple #[bv a (pack L).length c L.length, .int .i64 0]) ∧ (∃ e, w' = over w e) ∧ SlB w' a c (pack L)

end Go.Proofs.YtneeikjiabpjhaaGreatDoor
