/- Texts merged: RxB, RxP. -/
import Derived.Test.YtojkoijdndinoaaDoorGG
import Derived.Test.YtojkoijdndinoaaDoorGC
namespace Go.Proofs.YtojkoijdndinoaaDoor
set_option linter.unusedVariables false
set_option linter.unusedSimpArgs false
open Go.RowKit

end Go.Proofs.YtojkoijdndinoaaDoor
namespace Go.Proofs.YtojkoijdndinoaaDoor
set_option linter.unusedVariables false
set_option linter.unusedSimpArgs false
open Go.RowKit

section
variable {P : Program} {α : Type} {sz bytes : Nat} {cells : α → List Value} {t e : TypeId}
/-- An append to a slice that a call has just made over the world B. -/
theorem wpList_appendB {ops : Array Oper} {rest : List Oper} {o : Oper} {a : Act} {Q : Exit → Act → World → Prop} (he : ElemOf P t e sz bytes) {w B x0 : World} {v : Value} {ys xs : List α}
    (hc : ∀ y, (cells y).length = sz) (h1c : ∀ y, ∀ u ∈ cells y, u.oneCell' = true) (hgd : o.guard = none) (s x : Operand)
    (ho : o.op = .call { callee := .builtin .append, args := #[s, x], argTypes := #[t, t] })
    (hown : Own B.heap.size e sz cells (over B x0) v ys) (hsv : a.eval s = v) {ad : Option Addr} {cap : Nat} (hxv : a.eval x = .slice ad xs.length cap)
    (hw1 : Ov (over B x0) w) (hs : Sl sz cells w ad cap xs)
    (hlen : ys.length + xs.length ≤ maxLen) (hby : (ys.length + xs.length) * bytes ≤ 140737488355328)
    (h : ∀ v' x, Own B.heap.size e sz cells (over B x) v' (ys ++ xs) → wpList P ops Q rest (a.put o.dst v') (over B x)) :
    wpList P ops Q (o :: rest) a w :=
  wpList_append he hc h1c hgd s x ho hown hsv hxv hw1 (over_trans ⟨x0, rfl⟩ hw1) (Nat.le_refl _) (by simp) hs hlen hby (fun v' x h1 _ _ => h v' x h1)
end

abbrev rxV (a : Option Addr) (n cap : Nat) (N : Int) (t : Vl) (e : Nat) : Value := .tuple #[bv a n cap N, t.v, .int .i64 (e : Nat)]

/-- Bits of the call's own, and what is known (the document's). -/
def RxOwn (w : World) (L : List Bool) (t : Vl) (en : Ending) (w' : World) : Prop :=
  ∃ a c, en = .returned (rxV a (pack L).length c L.length t 0) ∧ (∃ e, w' = over w e) ∧ OwnB w.heap.size w' (.slice a (pack L).length c) (pack L)
def RxPost (w : World) (L : List Bool) (t : Vl) (en : Ending) (w' : World) : Prop :=
  ∃ a c, en = .returned (rxV a (pack L).length c L.length t 0) ∧ (∃ e, w' = over w e) ∧ SlB w' a c (pack L)

end Go.Proofs.YtojkoijdndinoaaDoor
