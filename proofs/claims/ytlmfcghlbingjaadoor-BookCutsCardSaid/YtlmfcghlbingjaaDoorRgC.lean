/- A region walked to a fact about what stands behind it. -/
import Derived.Test.YtlmfcghlbingjaaDoorGA
namespace Go.Proofs.YtlmfcghlbingjaaDoor
set_option linter.unusedVariables false
set_option linter.unusedSimpArgs false
open Go.RowKit
theorem region_cut {P : Program} {c : Code} {Q : Exit → Act → World → Prop} {a : Act} {w : World} (R : Act → World → Prop) (h1 : c.wp P (fun e a' w' => e = .normal ∧ R a' w') a w) (h2 : ∀ a' w', R a' w' → Q .normal a' w') : c.wp P Q a w :=
  Code.wp_mono (fun _ _ _ h => by obtain ⟨rfl, h⟩ := h; exact h2 _ _ h) h1
/-- What stands behind a region whose slots hang on two blocks and a slice. -/
def RgPost (A : Nat → Nat → Option Addr → Nat → Act) (F : Nat → Nat → Option Addr → Nat → World → Prop) (e : Exit) (a' : Act) (w' : World) : Prop := e = .normal ∧ ∃ q1 q2 a9 c9, a' = A q1 q2 a9 c9 ∧ F q1 q2 a9 c9 w'
theorem RgPost.mk {A : Nat → Nat → Option Addr → Nat → Act} {F : Nat → Nat → Option Addr → Nat → World → Prop} {a' : Act} {w' : World} (q1 q2 : Nat) (a9 : Option Addr) (c9 : Nat) (h1 : a' = A q1 q2 a9 c9) (h2 : F q1 q2 a9 c9 w') : RgPost A F .normal a' w' := ⟨rfl, q1, q2, a9, c9, h1, h2⟩
theorem region_cut4 {P : Program} {id : Nat} {l : List Oper} {Q : Exit → Act → World → Prop} {a : Act} {w : World} (A : Nat → Nat → Option Addr → Nat → Act) (F : Nat → Nat → Option Addr → Nat → World → Prop)
    (h1 : (Code.region id l.toArray true).wp P (RgPost A F) a w) (h2 : ∀ q1 q2 a9 c9 w', F q1 q2 a9 c9 w' → Q .normal (A q1 q2 a9 c9) w') : (Code.region id l.toArray true).wp P Q a w :=
  Code.wp_mono (fun _ _ _ h => by obtain ⟨rfl, q1, q2, a9, c9, rfl, h⟩ := h; exact h2 _ _ _ _ _ h) h1
/-- A frame that stands in a block, a place in another one: what a cut that is kept in variables comes to. -/
structure CutV (w0 w : World) (p1 p2 : Nat) (f t : List Value) (tf tp : TypeId) : Prop where
  ov : ∃ e, w = over w0 e
  f : Blk w p1 f tf
  t : Blk w p2 t tp
  lo : w0.heap.size ≤ p1 ∧ w0.heap.size ≤ p2
end Go.Proofs.YtlmfcghlbingjaaDoor
