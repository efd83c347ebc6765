/- Texts merged: RefG, RefC. -/
import Derived.Test.YtojkoijdndinoaaDoorGB
import Derived.Test.YtojkoijdndinoaaDoorGA
namespace Go.Proofs.YtojkoijdndinoaaDoor
set_option linter.unusedVariables false
set_option linter.unusedSimpArgs false
open Go.RowKit

abbrev rgetV (p : Nat × Nat) : Value := .tuple #[.int .u64 (p.1 : Nat), .int .i64 (p.2 : Nat)]

theorem cut_snoc {l : List Bool} {i k : Nat} (hk : i + k < l.length) : (l.drop i).take k ++ [l[i + k]] = (l.drop i).take (k + 1) := by
  rw [List.take_add_one, List.getElem?_drop, List.getElem?_eq_getElem hk]; rfl
theorem val_snoc (l : List Bool) (b : Bool) : val (l ++ [b]) = 2 * val l + b.toNat := by
  rw [val_append]; cases b <;> simp [val] <;> omega

end Go.Proofs.YtojkoijdndinoaaDoor
namespace Go.Proofs.YtojkoijdndinoaaDoor
set_option linter.unusedVariables false
set_option linter.unusedSimpArgs false
open Go.RowKit

/-- New bits, and no error. -/
def RcPost (w : World) (L : List Bool) (en : Ending) (w' : World) : Prop :=
  ∃ a c, en = .returned (.tuple #[bv a (pack L).length c L.length, .int .i64 0]) ∧ (∃ e, w' = over w e) ∧ SlB w' a c (pack L)

end Go.Proofs.YtojkoijdndinoaaDoor
