/- Walks: ChunkBack. -/
import Derived.Test.YtneeikjiabpjhaaGreatDoorHJ
import Derived.Test.YtneeikjiabpjhaaGreatDoorChkZ
namespace Go.Proofs.YtneeikjiabpjhaaGreatDoor
set_option linter.unusedVariables false
set_option linter.unusedSimpArgs false
open Go.RowKit
attribute [local go_sem] over_drew chg_drew

theorem runC_of {xs : List Sm} (hx : ∀ s ∈ xs, s.wf) (hl : xs.length ≤ 1000000) (g : goodC En.zero xs) : RunC (bitsC En.zero xs) xs 0 :=
  ⟨⟨hx, (bitsZ_len hx hl).1, g, [], by simp⟩, .inl ⟨rfl, rfl⟩⟩
def EndS (w : World) (us : List Nat) (er : Value) (en : Ending) (w' : World) : Prop :=
  ∃ a c, en = .returned (.tuple #[.slice a us.length c, er]) ∧ (∃ x, w' = over w x) ∧ SlI w' a c us
theorem EndPost.s {w w' : World} {us : List Nat} {er : Nat} {en : Ending} (h : EndPost w us er en w') {rv : Value} (hr : (.int .u16 (er : Nat) : Value) = rv) : EndS w us rv en w' := by
  subst hr
  obtain ⟨v, h1, h2, h3⟩ := h
  obtain ⟨a, c, rfl, s⟩ := Own.slice ics_len h3
  exact ⟨a, c, h1, h2, s⟩
theorem all_good {xs : List Sm} (hx : ∀ s ∈ xs, s.wf) (hl : xs.length ≤ 4000) (g : goodC En.zero xs) (a : Option Addr) (c : Nat) (w : World) (hT : TabW w) (hs : SlB w a c (pack (bitsC En.zero xs))) :
    Calls Tryz.prog 36 #[bv a (pack (bitsC En.zero xs)).length c (bitsC En.zero xs).length] w (AllS w xs (knowC En.zero xs).v (.int .u16 0)) := by
  have hb := bitsZ_len hx (by omega)
  have h := call_any _ _ a c xs 0 (each_ok (by omega) a c (runC_of hx (by omega) g)) (by omega) w hT hs
  rw [if_pos rfl, if_pos rfl] at h
  exact h.mono fun _ _ h => h.s rfl rfl
end Go.Proofs.YtneeikjiabpjhaaGreatDoor
