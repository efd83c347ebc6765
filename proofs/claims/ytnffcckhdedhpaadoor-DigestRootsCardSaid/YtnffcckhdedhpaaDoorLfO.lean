import Derived.Test.YtnffcckhdedhpaaDoorHF
import Derived.Test.YtnffcckhdedhpaaDoorPA
namespace Go.Proofs.YtnffcckhdedhpaaDoor
set_option linter.unusedVariables false
set_option linter.unusedSimpArgs false
open Go.RowKit Go.ChangeShapes Go.WideShapes Go.ChangeAt
theorem lf_dec (cs : List Value) (h : okAll [some .u32, some .u32, some .u32, some .u64] cs) : ∃ s : Lf, s.wf ∧ s.cs = cs := by
  have hl := okAll_length _ _ h
  match cs, hl with
  | [v0, v1, v2, v3], _ =>
    obtain ⟨⟨a, rfl, ha⟩, ⟨b, rfl, hb⟩, ⟨c, rfl, hc⟩, ⟨d, rfl, hd⟩, _⟩ := h
    obtain ⟨a, rfl, ha'⟩ := u32_nat ha
    obtain ⟨b, rfl, hb'⟩ := u32_nat hb
    obtain ⟨c, rfl, hc'⟩ := u32_nat hc
    obtain ⟨d, rfl, hd'⟩ := u64_nat hd
    exact ⟨⟨a, b, c, d⟩, ⟨ha', hb', hc', hd'⟩, rfl⟩
section
variable {H : Type} {enc : TypeId × Value → H} {W : World} {spare : Nat → Bool} {held : Bool}
set_option maxRecDepth 100000 in
theorem open_leaf {v : Value} {y : DataW H} {ps : List MemPlace} {base : Nat} {r : Reach} (hv : Value.okWide Tryd.prog W r base 26 v) {b : Nat} (h : DataW.Trod enc Tryd.prog W b spare held 26 v y ps) : ∃ s : Lf, s.wf ∧ v = s.v := by
  obtain ⟨cs, rfl, _⟩ := okWide_struct Tryd.underlying26 hv
  have h1 := open_flat (d := 5) (ks := [some .u32, some .u32, some .u32, some .u64]) (by kernel_rfl) h
  obtain ⟨s, hs, hc⟩ := lf_dec _ h1
  refine ⟨s, hs, ?_⟩
  have : cs = #[.int .u32 (s.s : Nat), .int .u32 (s.c : Nat), .int .u32 (s.n : Nat), .int .u64 (s.m : Nat)] := by
    apply Array.ext'
    rw [← show _ = cs.toList from hc]; rfl
  rw [this]; rfl
theorem open_leaves {a : Option Addr} {n cap : Nat} {y : DataW H} {ps : List MemPlace} {base : Nat} (h : DataW.Trod enc Tryd.prog W base spare held 22 (.slice a n cap) y ps) : ∃ xs : List Lf, xs.length = n ∧ Sl 4 Lf.cs W a cap xs ∧ ∀ x ∈ xs, x.wf :=
  open_sl (d := 5) (ks := [some .u32, some .u32, some .u32, some .u64]) (e := 26) lf_dec (by decide) (by kernel_rfl) (by kernel_rfl) Tryd.underlying22 h
end
end Go.Proofs.YtnffcckhdedhpaaDoor
