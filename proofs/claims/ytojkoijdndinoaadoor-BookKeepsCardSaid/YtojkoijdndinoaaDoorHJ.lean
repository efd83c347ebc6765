/- Texts merged: ChkK, Onl. -/
import Derived.Test.YtojkoijdndinoaaDoorGM
import Derived.Test.YtojkoijdndinoaaDoorGL
import Derived.Test.YtojkoijdndinoaaDoorGN
import Derived.Test.YtojkoijdndinoaaDoorChkY
import Derived.Test.YtojkoijdndinoaaDoorGB
namespace Go.Proofs.YtojkoijdndinoaaDoor
set_option linter.unusedVariables false
set_option linter.unusedSimpArgs false
open Go.RowKit
attribute [local go_sem] over_drew

theorem wrongC_cases {a b : Bool} (h : ¬ wrongC a b = 0) : wrongC a b = 11 ∨ wrongC a b = 61 := by
  cases a <;> cases b <;> simp_all [wrongC]
theorem wrongC_zero {a b : Bool} (h : wrongC a b = 0) : a = true ∧ b = true := by
  cases a <;> cases b <;> simp_all [wrongC]
end Go.Proofs.YtojkoijdndinoaaDoor
namespace Go.Proofs.YtojkoijdndinoaaDoor
set_option linter.unusedVariables false
set_option linter.unusedSimpArgs false
open Go.RowKit
attribute [local go_sem] over_drew chg_drew

/-- Times rise. -/
theorem good_rise {xs : List Sm} (hw : ∀ s ∈ xs, s.wf) (hl : xs.length ≤ 1000000) (g : goodC En.zero xs) {i j : Nat} (hi : i < xs.length) (hj : j < xs.length) (hij : j + 1 = i) : xs[j].t < xs[i].t := by
  subst hij
  have h1 := g
  rw [← List.take_append_drop (j + 1 + 1) xs, goodC_app, takeC_get hi, goodC_snoc] at h1
  have hlen : (xs.take (j + 1)).length = j + 1 := by rw [List.length_take]; omega
  have h2 := (comes_get (acc := xs.take (j + 1)) (fun s hs => hw s (List.mem_of_mem_take hs)) (by omega) (by omega) xs[j + 1].t).1 h1.1.2
  have h3 : (xs.take (j + 1))[(xs.take (j + 1)).length - 1]'(by omega) = xs[j] := by
    rw [List.getElem_take]; congr 1; omega
  rw [h3] at h2; exact h2
theorem bitsC_two {e : En} (hs : soundE e = true) (hw : e.wf) : ∀ (xs : List Sm), (∀ s ∈ xs, s.wf) → e.n + xs.length < 9223372036854775807 → 2 * xs.length ≤ (bitsC e xs).length
  | [], _, _ => by simp [bitsC]
  | s :: r, h, hn => by
    have h0 := h s (by simp)
    have h1 := laid_sound (v := s.v) hs hw h0.1 h0.2 (by simp at hn; omega)
    have h2 := written_len (soundE_val hs) hw.2.2.2 h0.2
    have h4 := timeBits_len e s.t
    have h3 := bitsC_two h1.1 h1.2.1 r (fun x hx => h x (by simp [hx])) (by rw [h1.2.2.1]; simp at hn; omega)
    simp only [bitsC, laid, List.length_append, List.length_cons] at h3 ⊢; omega
/-- What is read to the end is laid just so. -/
theorem RunC.whole {L : List Bool} {xs : List Sm} (h : RunC L xs 0) : bitsC En.zero xs = L := by
  obtain ⟨r, hr⟩ := h.rd.bits
  rcases h.fin with ⟨_, h1⟩ | ⟨h1, _⟩
  · have : r = [] := by
      have := congrArg List.length hr
      rw [List.length_append] at this
      exact List.eq_nil_of_length_eq_zero (by omega)
    rw [hr, this, List.append_nil]
  · omega
/-- Bits, what is known. -/
def CpB (w : World) (L : List Bool) (e : En) (en : Ending) (w' : World) : Prop :=
  ∃ a c, en = .returned (.tuple #[bv a (pack L).length c L.length, e.v, .int .u16 0]) ∧ (∃ x, w' = over w x) ∧ SlB w' a c (pack L)
theorem CoPost.b {w w' : World} {L : List Bool} {e : En} {en : Ending} (h : CoPost w (L, e, 0) en w') : CpB w L e en w' := by
  obtain ⟨a, c, h1, h2, h3⟩ := h; exact ⟨a, c, h1, h2, (Own.slice' bcs_len h3).2⟩
/-- Samples as a slice. -/
def AllS (w : World) (xs : List Sm) (ev : Value) (er : Value) (en : Ending) (w' : World) : Prop :=
  ∃ a c, en = .returned (.tuple #[.slice a xs.length c, ev, er]) ∧ (∃ x, w' = over w x) ∧ SlM w' a c xs
theorem AllPost.s {w w' : World} {xs : List Sm} {e : En} {er : Nat} {en : Ending} (h : AllPost w xs e er en w') {ev rv : Value} (he : e.v = ev) (hr : (.int .u16 (er : Nat) : Value) = rv) : AllS w xs ev rv en w' := by
  subst he hr
  obtain ⟨v, h1, h2, h3⟩ := h
  obtain ⟨a, c, rfl, s⟩ := Own.slice Sm.cs_len h3
  exact ⟨a, c, h1, h2, s⟩

end Go.Proofs.YtojkoijdndinoaaDoor
