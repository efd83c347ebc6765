import Derived.Test.YtnihngljmmbenaaGreatDoorGG
import Derived.Test.YtnihngljmmbenaaGreatDoorGC
namespace Go.Proofs.YtnihngljmmbenaaGreatDoor
set_option linter.unusedVariables false
set_option linter.unusedSimpArgs false
section
open Go.RowKit
end
section
open Go.RowKit

section
variable {P : Program} {α : Type} {sz bytes : Nat} {cells : α → List Value} {t e : TypeId}
end

abbrev rxV (a : Option Addr) (n cap : Nat) (N : Int) (t : Vl) (e : Nat) : Value := .tuple #[bv a n cap N, t.v, .int .i64 (e : Nat)]

def RxOwn (w : World) (L : List Bool) (t : Vl) (en : Ending) (w' : World) : Prop :=
  ∃ a c, en = .returned (rxV a (pack L).length c L.length t 0) ∧ (∃ e, w' = over w e) ∧ OwnB w.heap.size w' (.slice a (pack L).length c) (pack L)
def RxPost (w : World) (L : List Bool) (t : Vl) (en : Ending) (w' : World) : Prop :=
  ∃ a c, en = .returned (rxV a (pack L).length c L.length t 0) ∧ (∃ e, w' = over w e) ∧ SlB w' a c (pack L)
end
end Go.Proofs.YtnihngljmmbenaaGreatDoor
