/- Walks: a book's Cut. -/
import Derived.Test.YtneeikjiabpjhaaDoorHD
namespace Go.Proofs.YtneeikjiabpjhaaDoor
set_option linter.unusedVariables false
set_option linter.unusedSimpArgs false
open Go.RowKit
attribute [local go_sem] over_drew chg_drew
attribute [local go_sem high] place_eql place_neq

theorem Blk.setCells_ {p : Nat} {t : TypeId} : ∀ (vs : List Value) (o : Nat) (w : World) (cs : List Value), Blk w p cs t → o + vs.length ≤ cs.length → Blk (w.setCells p o vs) p (putAt cs o vs) t
  | [], o, w, cs, h, _ => by rw [putAt_nil]; exact h
  | v :: r, o, w, cs, h, hl => by
    simp only [List.length_cons] at hl
    rw [putAt_cons _ _ _ _ (by omega)]
    exact Blk.setCells_ r (o + 1) _ _ (h.set o v) (by simp only [List.length_set]; omega)
/-- A block that is written whole. -/
theorem Blk.full {w : World} {p : Nat} {t : TypeId} {cs : List Value} (h : Blk w p cs t) (vs : List Value) (hl : vs.length = cs.length) : Blk (w.setCells p 0 vs) p vs t := by
  have k := Blk.setCells_ vs 0 w cs h (by omega)
  rw [show putAt cs 0 vs = vs by unfold putAt; rw [List.take_zero, Nat.zero_add, hl, List.drop_length]; simp] at k
  exact k
theorem Blk.off {w : World} {p q : Nat} {t : TypeId} {cs : List Value} (h : Blk w p cs t) (hq : p ≠ q) : ∀ (vs : List Value) (o : Nat), Blk (w.setCells q o vs) p cs t
  | [], _ => h
  | v :: r, o => Blk.off (Blk.set_ne h hq v) hq r (o + 1)
end Go.Proofs.YtneeikjiabpjhaaDoor
