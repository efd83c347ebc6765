/- Walks: bit.Cut. -/
import Derived.Test.YtneeikjiabpjhaaDoorGB
import Derived.Test.YtneeikjiabpjhaaDoorGA
namespace Go.Proofs.YtneeikjiabpjhaaDoor
set_option linter.unusedVariables false
set_option linter.unusedSimpArgs false
open Go.RowKit
attribute [local go_sem] over_drew chg_drew

theorem cut_more {l : List Bool} {i k m : Nat} (h : i + k + m ≤ l.length) (hm : m ≤ 8) : (l.drop i).take k ++ hi (oct fun j => l.getD (i + k + j) false) m = (l.drop i).take (k + m) := by
  rw [oct_hi h hm, ← List.drop_drop, List.take_add]
theorem HasWr.on {w1 w : World} {p : Nat} {l : List Bool} (h : HasWr w1 p l w) (x : World) : HasWr w1 p l (over w x) := by
  obtain ⟨e, F, rfl, hw⟩ := h
  obtain ⟨e', he⟩ : ∃ e', over (over w1 e) x = over w1 e' := (by (try unfold Ov); exact ovA)
  exact ⟨e', F, he, hw.chg ((Chg.refl [] _).on x) (fun _ _ hm => by cases hm)⟩
end Go.Proofs.YtneeikjiabpjhaaDoor
