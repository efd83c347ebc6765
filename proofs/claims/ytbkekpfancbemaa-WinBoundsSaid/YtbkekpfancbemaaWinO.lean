/- What the rows of the window laws share: arguments opened. -/
import Derived.Test.YtbkekpfancbemaaWinK
namespace Go.Proofs.Ytbkekpfancbemaa
set_option linter.unusedVariables false
set_option linter.unusedSimpArgs false
open Go.RowKit Go.ChangeShapes Go.WideShapes Go.ChangeAt

theorem ownKnob0 : ownKnob Try.prog.godebug = none := by kernel_rfl
theorem laidOut0 : laidOutB Try.prog = true := by kernel_rfl

theorem below_of_over {w w' : World} (h : ∃ e, w' = over w e) : Below w.heap.size w w' := by
  obtain ⟨e, rfl⟩ := h; exact below_over w e

theorem u32_of {n : Int} (h : (Lit.int .u32 n).wf = true) : u32ok n := by
  have := bounds_u32 h
  unfold u32ok; omega
theorem u8_of {n : Int} (h : (Lit.int .u8 n).wf = true) : 0 ≤ n ∧ n < 256 := by
  have := bounds_u8 h
  omega

theorem Pl.dec (cs : List Value) (h : okAll [some .u32, some .u32, some .u32] cs) : ∃ x : Pl, x.wf ∧ x.cs = cs := by
  rcases cs with _ | ⟨x, _ | ⟨y, _ | ⟨z, _ | ⟨t, l⟩⟩⟩⟩
  · exact h.elim
  · exact h.2.elim
  · exact h.2.2.elim
  · obtain ⟨⟨a, rfl, ha⟩, ⟨b, rfl, hb⟩, ⟨c, rfl, hc⟩, _⟩ := h
    exact ⟨⟨a, b, c⟩, ⟨u32_of ha, u32_of hb, u32_of hc⟩, rfl⟩
  · exact h.2.2.2.elim
theorem Wo.dec (cs : List Value) (h : okAll [some .u8, some .u32, some .u32, some .u32, some .u32, some .u32, some .u32, some .u32, some .i64] cs) : ∃ x : Wo, x.wf ∧ x.cs = cs := by
  have hl := okAll_length _ _ h
  match cs, hl with
  | [v0, v1, v2, v3, v4, v5, v6, v7, v8], _ =>
    obtain ⟨⟨k, rfl, hk⟩, ⟨a, rfl, ha⟩, ⟨b, rfl, hb⟩, ⟨c, rfl, hc⟩, ⟨d, rfl, hd⟩, ⟨e, rfl, he⟩, ⟨f, rfl, hf⟩, ⟨g, rfl, hg⟩, ⟨n, rfl, hn⟩, _⟩ := h
    have hn := bounds_i64 hn
    exact ⟨⟨k, ⟨a, ⟨b, c, d⟩, ⟨e, f, g⟩, n⟩⟩, ⟨u8_of hk, u32_of ha, ⟨u32_of hb, u32_of hc, u32_of hd⟩, ⟨u32_of he, u32_of hf, u32_of hg⟩, hn.1, hn.2⟩, rfl⟩

section
variable {H : Type} {enc : TypeId × Value → H} {W : World} {spare : Nat → Bool} {held : Bool}
theorem open_wops {a : Option Addr} {n cap : Nat} {y : DataW H} {ps : List MemPlace} {base : Nat} (h : DataW.Trod enc Try.prog W base spare held 27 (.slice a n cap) y ps) : ∃ xs : List Wo, xs.length = n ∧ SlW W a cap xs ∧ ∀ x ∈ xs, x.wf :=
  open_sl (d := 8) (ks := [some .u8, some .u32, some .u32, some .u32, some .u32, some .u32, some .u32, some .u32, some .i64]) (e := 34) Wo.dec (by decide) (by kernel_rfl) (by kernel_rfl) Try.underlying27 h
theorem open_place {v : Value} {y : DataW H} {ps : List MemPlace} {base : Nat} {r : Reach} (hv : Value.okWide Try.prog W r base 24 v) {b : Nat} (h : DataW.Trod enc Try.prog W b spare held 24 v y ps) : ∃ s : Pl, s.wf ∧ v = s.v := by
  obtain ⟨cs, rfl, _⟩ := okWide_struct Try.underlying24 hv
  have h1 := open_flat (d := 5) (ks := [some .u32, some .u32, some .u32]) (by kernel_rfl) h
  obtain ⟨s, hs, he⟩ := Pl.dec _ h1
  refine ⟨s, hs, ?_⟩
  have : cs = #[.int .u32 s.c, .int .u32 s.b, .int .u32 s.n] := by
    apply Array.ext'
    rw [← show _ = cs.toList from he]; rfl
  rw [this]
end
end Go.Proofs.Ytbkekpfancbemaa
