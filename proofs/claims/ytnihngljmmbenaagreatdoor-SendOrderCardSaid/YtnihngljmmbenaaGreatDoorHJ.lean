import Derived.Test.YtnihngljmmbenaaGreatDoorGM
import Derived.Test.YtnihngljmmbenaaGreatDoorGL
import Derived.Test.YtnihngljmmbenaaGreatDoorGN
import Derived.Test.YtnihngljmmbenaaGreatDoorNF
import Derived.Test.YtnihngljmmbenaaGreatDoorGB
namespace Go.Proofs.YtnihngljmmbenaaGreatDoor
set_option linter.unusedVariables false
set_option linter.unusedSimpArgs false
section
open Go.RowKit
attribute [local go_sem] over_drew
end
section
open Go.RowKit
attribute [local go_sem] over_drew chg_drew

theorem RunC.whole {L : List Bool} {xs : List Sm} (h : RunC L xs 0) : bitsC En.zero xs = L := by
  obtain ⟨r, hr⟩ := h.rd.bits
  rcases h.fin with ⟨_, h1⟩ | ⟨h1, _⟩
  · have : r = [] := by
      have := congrArg List.length hr
      rw [List.length_append] at this
      exact List.eq_nil_of_length_eq_zero (by omega)
    rw [hr, this, List.append_nil]
  · omega
def CpB (w : World) (L : List Bool) (e : En) (en : Ending) (w' : World) : Prop :=
  ∃ a c, en = .returned (.tuple #[bv a (pack L).length c L.length, e.v, .int .u16 0]) ∧ (∃ x, w' = over w x) ∧ SlB w' a c (pack L)
theorem CoPost.b {w w' : World} {L : List Bool} {e : En} {en : Ending} (h : CoPost w (L, e, 0) en w') : CpB w L e en w' := by
  obtain ⟨a, c, h1, h2, h3⟩ := h; exact ⟨a, c, h1, h2, (Own.slice' bcs_len h3).2⟩
def AllS (w : World) (xs : List Sm) (ev : Value) (er : Value) (en : Ending) (w' : World) : Prop :=
  ∃ a c, en = .returned (.tuple #[.slice a xs.length c, ev, er]) ∧ (∃ x, w' = over w x) ∧ SlM w' a c xs
theorem AllPost.s {w w' : World} {xs : List Sm} {e : En} {er : Nat} {en : Ending} (h : AllPost w xs e er en w') {ev rv : Value} (he : e.v = ev) (hr : (.int .u16 (er : Nat) : Value) = rv) : AllS w xs ev rv en w' := by
  subst he hr
  obtain ⟨v, h1, h2, h3⟩ := h
  obtain ⟨a, c, rfl, s⟩ := Own.slice Sm.cs_len h3
  exact ⟨a, c, h1, h2, s⟩
end
section
open Go.RowKit
attribute [local go_sem] over_drew chg_drew

def EndS (w : World) (us : List Nat) (er : Value) (en : Ending) (w' : World) : Prop :=
  ∃ a c, en = .returned (.tuple #[.slice a us.length c, er]) ∧ (∃ x, w' = over w x) ∧ SlI w' a c us
theorem EndPost.s {w w' : World} {us : List Nat} {er : Nat} {en : Ending} (h : EndPost w us er en w') {rv : Value} (hr : (.int .u16 (er : Nat) : Value) = rv) : EndS w us rv en w' := by
  subst hr
  obtain ⟨v, h1, h2, h3⟩ := h
  obtain ⟨a, c, rfl, s⟩ := Own.slice ics_len h3
  exact ⟨a, c, h1, h2, s⟩
end
end Go.Proofs.YtnihngljmmbenaaGreatDoor
