import Derived.Test.YtnihngljmmbenaaGreatDoorHB
namespace Go.Proofs.YtnihngljmmbenaaGreatDoor
set_option linter.unusedVariables false
set_option linter.unusedSimpArgs false
section
open Go.RowKit
attribute [local go_sem] over_drew chg_drew

def AllPost (w : World) (xs : List Sm) (e : En) (er : Nat) (en : Ending) (w' : World) : Prop :=
  ∃ v, en = .returned (.tuple #[v, e.v, .int .u16 (er : Nat)]) ∧ (∃ x, w' = over w x) ∧ OwnM w.heap.size w' v xs

structure AllI (w : World) (p3 p6 base : Nat) (xs : List Sm) (k : Nat) (W : World) : Prop where
  ov : ∃ e, W = over w e
  b3 : Blk W p3 En.zero.cs 121
  b6 : ∃ v, Blk W p6 [v] 58 ∧ OwnM base W v (xs.take k)
end
section
open Go.RowKit
attribute [local go_sem] over_drew chg_drew

def EndPost (w : World) (us : List Nat) (er : Nat) (en : Ending) (w' : World) : Prop :=
  ∃ v, en = .returned (.tuple #[v, .int .u16 (er : Nat)]) ∧ (∃ x, w' = over w x) ∧ OwnI w.heap.size w' v us
end
end Go.Proofs.YtnihngljmmbenaaGreatDoor
