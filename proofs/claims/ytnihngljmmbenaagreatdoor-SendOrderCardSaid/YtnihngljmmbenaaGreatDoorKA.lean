import Derived.Test.YtnihngljmmbenaaGreatDoorHD
namespace Go.Proofs.YtnihngljmmbenaaGreatDoor
set_option linter.unusedVariables false
set_option linter.unusedSimpArgs false
section
open Go.RowKit
theorem getS_mem {S : List (Nat × Sr)} {P : Sr → Prop} (h : ∀ x ∈ S, P x.2) (h0 : P Sr.zero) (id : Nat) : P (getS S id) := by
  unfold getS
  cases hq : S.find? (fun x => x.1 == id) with
  | none => exact h0
  | some y => exact h y (List.mem_of_find?_eq_some hq)
end
end Go.Proofs.YtnihngljmmbenaaGreatDoor
