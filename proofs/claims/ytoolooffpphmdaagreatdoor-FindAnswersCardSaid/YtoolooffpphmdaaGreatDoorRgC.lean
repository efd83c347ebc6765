import Derived.Test.YtoolooffpphmdaaGreatDoorGA
namespace Go.Proofs.YtoolooffpphmdaaGreatDoor
set_option linter.unusedVariables false
set_option linter.unusedSimpArgs false
open Go.RowKit
def RgPost (A : Nat → Nat → Option Addr → Nat → Act) (F : Nat → Nat → Option Addr → Nat → World → Prop) (e : Exit) (a' : Act) (w' : World) : Prop := e = .normal ∧ ∃ q1 q2 a9 c9, a' = A q1 q2 a9 c9 ∧ F q1 q2 a9 c9 w'
theorem RgPost.mk {A : Nat → Nat → Option Addr → Nat → Act} {F : Nat → Nat → Option Addr → Nat → World → Prop} {a' : Act} {w' : World} (q1 q2 : Nat) (a9 : Option Addr) (c9 : Nat) (h1 : a' = A q1 q2 a9 c9) (h2 : F q1 q2 a9 c9 w') : RgPost A F .normal a' w' := ⟨rfl, q1, q2, a9, c9, h1, h2⟩
theorem rg4 {P : Program} {id : Nat} {l : List Oper} {Q : Exit → Act → World → Prop} {a : Act} {w : World} (A : Nat → Nat → Option Addr → Nat → Act) (F : Nat → Nat → Option Addr → Nat → World → Prop)
    (h1 : (Code.region id l.toArray true).wp P (RgPost A F) a w) (h2 : ∀ q1 q2 a9 c9 w', F q1 q2 a9 c9 w' → Q .normal (A q1 q2 a9 c9) w') : (Code.region id l.toArray true).wp P Q a w :=
  Code.wp_mono (fun _ _ _ h => by obtain ⟨rfl, q1, q2, a9, c9, rfl, h⟩ := h; exact h2 _ _ _ _ _ h) h1
end Go.Proofs.YtoolooffpphmdaaGreatDoor
