import Derived.Test.YtnffcckhdedhpaaDoorHJ
import Derived.Test.YtnffcckhdedhpaaDoorNF
namespace Go.Proofs.YtnffcckhdedhpaaDoor
set_option linter.unusedVariables false
set_option linter.unusedSimpArgs false
open Go.RowKit
attribute [local go_sem] over_drew chg_drew

def EndS (w : World) (us : List Nat) (er : Value) (en : Ending) (w' : World) : Prop :=
  ∃ a c, en = .returned (.tuple #[.slice a us.length c, er]) ∧ (∃ x, w' = over w x) ∧ SlI w' a c us
theorem EndPost.s {w w' : World} {us : List Nat} {er : Nat} {en : Ending} (h : EndPost w us er en w') {rv : Value} (hr : (.int .u16 (er : Nat) : Value) = rv) : EndS w us rv en w' := by
  subst hr
  obtain ⟨v, h1, h2, h3⟩ := h
  obtain ⟨a, c, rfl, s⟩ := Own.slice ics_len h3
  exact ⟨a, c, h1, h2, s⟩
end Go.Proofs.YtnffcckhdedhpaaDoor
