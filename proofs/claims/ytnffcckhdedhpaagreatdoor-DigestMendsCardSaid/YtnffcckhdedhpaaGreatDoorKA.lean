import Derived.Test.YtnffcckhdedhpaaGreatDoorHD
namespace Go.Proofs.YtnffcckhdedhpaaGreatDoor
set_option linter.unusedVariables false
set_option linter.unusedSimpArgs false
section
open Go.RowKit
theorem last_ahead (s : Sr) {c : List Sm} (h : s.cl.getLast? = some c) : s.ahead = (knowC En.zero c).last := by unfold Sr.ahead; rw [h]
theorem getS_mem {S : List (Nat × Sr)} {P : Sr → Prop} (h : ∀ x ∈ S, P x.2) (h0 : P Sr.zero) (id : Nat) : P (getS S id) := by
 unfold getS; cases hq : S.find? (fun x => x.1 == id) with
 | none => exact h0
 | some y => exact h y (List.mem_of_find?_eq_some hq)
theorem getS_no {S : List (Nat × Sr)} {id : Nat} (h : ∀ x ∈ S, x.1 ≠ id) : getS S id = Sr.zero := by
 unfold getS; rw [List.find?_eq_none.2 (fun x hx => by simpa using h x hx)]; rfl
end
end Go.Proofs.YtnffcckhdedhpaaGreatDoor
