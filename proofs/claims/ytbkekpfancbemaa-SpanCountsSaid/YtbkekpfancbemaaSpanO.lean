/- What the rows of the span laws share: arguments opened. -/
import Derived.Test.YtbkekpfancbemaaSpanG
namespace Go.Proofs.Ytbkekpfancbemaa
set_option linter.unusedVariables false
set_option linter.unusedSimpArgs false
open Go.RowKit Go.ChangeShapes Go.WideShapes Go.ChangeAt

theorem ownKnob0 : ownKnob Try.prog.godebug = none := by kernel_rfl
theorem laidOut0 : laidOutB Try.prog = true := by kernel_rfl

theorem below_of_over {w w' : World} (h : ∃ e, w' = over w e) : Below w.heap.size w w' := by
  obtain ⟨e, rfl⟩ := h; exact below_over w e

set_option maxRecDepth 100000 in
theorem Sp.dec (cs : List Value) (h : okAll [some .i64, some .i64] cs) : ∃ x : Sp, x.wf ∧ x.cs = cs := by
  rcases cs with _ | ⟨x, _ | ⟨y, _ | ⟨z, l⟩⟩⟩
  · exact h.elim
  · exact h.2.elim
  · obtain ⟨⟨a, rfl, ha⟩, ⟨b, rfl, hb⟩, _⟩ := h
    have ha := bounds_i64 ha
    have hb := bounds_i64 hb
    exact ⟨⟨a, b⟩, ⟨ha.1, ha.2, hb.1, hb.2⟩, rfl⟩
  · exact h.2.2.elim

section
variable {H : Type} {enc : TypeId × Value → H} {W : World} {spare : Nat → Bool} {held : Bool}
theorem open_spans {a : Option Addr} {n cap : Nat} {y : DataW H} {ps : List MemPlace} {base : Nat} (h : DataW.Trod enc Try.prog W base spare held 51 (.slice a n cap) y ps) : ∃ xs : List Sp, xs.length = n ∧ SlS W a cap xs ∧ ∀ x ∈ xs, x.wf :=
  open_sl (d := 5) (ks := [some .i64, some .i64]) (e := 53) Sp.dec (by decide) (by kernel_rfl) (by kernel_rfl) Try.underlying51 h
theorem open_span {v : Value} {y : DataW H} {ps : List MemPlace} {base : Nat} {r : Reach} (hv : Value.okWide Try.prog W r base 53 v) {b : Nat} (h : DataW.Trod enc Try.prog W b spare held 53 v y ps) : ∃ s : Sp, s.wf ∧ v = s.v := by
  obtain ⟨cs, rfl, _⟩ := okWide_struct Try.underlying53 hv
  have h1 := open_flat (d := 5) (ks := [some .i64, some .i64]) (by kernel_rfl) h
  obtain ⟨s, hs, he⟩ := Sp.dec _ h1
  refine ⟨s, hs, ?_⟩
  have : cs = #[.int .i64 s.f, .int .i64 s.t] := by
    apply Array.ext'
    rw [← show _ = cs.toList from he]; rfl
  rw [this]
end
end Go.Proofs.Ytbkekpfancbemaa
