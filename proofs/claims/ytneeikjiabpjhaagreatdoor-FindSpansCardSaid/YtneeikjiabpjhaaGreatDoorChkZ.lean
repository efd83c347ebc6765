/- Walks: chunk.Ends. -/
import Derived.Test.YtneeikjiabpjhaaGreatDoorChkY
namespace Go.Proofs.YtneeikjiabpjhaaGreatDoor
set_option linter.unusedVariables false
set_option linter.unusedSimpArgs false
open Go.RowKit
attribute [local go_sem] over_drew chg_drew

def EndPost (w : World) (us : List Nat) (er : Nat) (en : Ending) (w' : World) : Prop :=
  ∃ v, en = .returned (.tuple #[v, .int .u16 (er : Nat)]) ∧ (∃ x, w' = over w x) ∧ OwnI w.heap.size w' v us

structure EndI (w : World) (p4 p5 p6 base : Nat) (xs : List Sm) (k : Nat) (W : World) : Prop where
  ov : ∃ e, W = over w e
  b4 : Blk W p4 [.pointer (some ⟨p5, 0, none⟩)] 134
  b6 : ∃ v, Blk W p6 [v] 104 ∧ OwnI base W v (endsK xs k)

end Go.Proofs.YtneeikjiabpjhaaGreatDoor
