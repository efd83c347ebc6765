import Derived.Test.YtnffcckhdedhpaaGreatDoorNF
import Derived.Test.YtnffcckhdedhpaaGreatDoorGB
import Derived.Lib.BufferRead
import Derived.Test.YtnffcckhdedhpaaGreatDoorGM
import Derived.Test.YtnffcckhdedhpaaGreatDoorGF
import Derived.Test.YtnffcckhdedhpaaGreatDoorGC
import Derived.Test.YtnffcckhdedhpaaGreatDoorGA
import Derived.Test.YtnffcckhdedhpaaGreatDoorGD
namespace Go.Proofs.YtnffcckhdedhpaaGreatDoor
set_option linter.unusedVariables false
set_option linter.unusedSimpArgs false
section
open Go.RowKit
attribute [local go_sem] odr cdr
theorem RunC.whole {L : List Bool} {xs : List Sm} (h : RunC L xs 0) : bitsC En.zero xs = L := by
 obtain ⟨r, hr⟩ := h.rd.bits; rcases h.fin with ⟨_, h1⟩ | ⟨h1, _⟩
 · have : r = [] := by
    have := congrArg List.length hr; rw [List.length_append] at this; exact List.eq_nil_of_length_eq_zero (by omega)
   rw [hr, this, List.append_nil]
 · omega
def AllS (w : World) (xs : List Sm) (ev : Value) (er : Value) (en : Ending) (w' : World) : Prop :=
 ∃ a c, en = .returned (.tuple #[.slice a xs.length c, ev, er]) ∧ (∃ x, w' = over w x) ∧ SlM w' a c xs
theorem AllPost.s {w w' : World} {xs : List Sm} {e : En} {er : Nat} {en : Ending} (h : AllPost w xs e er en w') {ev rv : Value} (he : e.v = ev) (hr : (.int .u16 (er : Nat) : Value) = rv) : AllS w xs ev rv en w' := by
 subst he hr; obtain ⟨v, h1, h2, h3⟩ := h; obtain ⟨a, c, rfl, s⟩ := Own.slice Sm.cs_len h3; exact ⟨a, c, h1, h2, s⟩
end
section
open Go.RowKit
attribute [local go_sem] odr cdr
theorem runC_of {xs : List Sm} (hx : ∀ s ∈ xs, s.wf) (hl : xs.length ≤ 1000000) (g : goodC En.zero xs) : RunC (bitsC En.zero xs) xs 0 :=
 ⟨⟨hx, (bitsZ_len hx hl).1, g, [], by simp⟩, .inl ⟨rfl, rfl⟩⟩
def EndS (w : World) (us : List Nat) (er : Value) (en : Ending) (w' : World) : Prop :=
 ∃ a c, en = .returned (.tuple #[.slice a us.length c, er]) ∧ (∃ x, w' = over w x) ∧ SlI w' a c us
theorem EndPost.s {w w' : World} {us : List Nat} {er : Nat} {en : Ending} (h : EndPost w us er en w') {rv : Value} (hr : (.int .u16 (er : Nat) : Value) = rv) : EndS w us rv en w' := by
 subst hr; obtain ⟨v, h1, h2, h3⟩ := h; obtain ⟨a, c, rfl, s⟩ := Own.slice ics_len h3; exact ⟨a, c, h1, h2, s⟩
theorem all_good {xs : List Sm} (hx : ∀ s ∈ xs, s.wf) (hl : xs.length ≤ 4000) (g : goodC En.zero xs) (a : Option Addr) (c : Nat) (w : World) (hT : TabW w) (hs : SlB w a c (pack (bitsC En.zero xs))) :
    Calls Tryz.prog 49 #[bv a (pack (bitsC En.zero xs)).length c (bitsC En.zero xs).length] w (AllS w xs (knowC En.zero xs).v (.int .u16 0)) := by
  have hb := bitsZ_len hx (by omega); have h := call_any _ _ a c xs 0 (each_ok (by omega) a c (runC_of hx (by omega) g)) (by omega) w hT hs; rw [if_pos rfl, if_pos rfl] at h; exact h.mono fun _ _ h => h.s rfl rfl
end
end Go.Proofs.YtnffcckhdedhpaaGreatDoor
