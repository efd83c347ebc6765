import Derived.Test.YtoolooffpphmdaaGreatDoorHF
import Derived.Test.YtoolooffpphmdaaGreatDoorLG
namespace Go.Proofs.YtoolooffpphmdaaGreatDoor
set_option linter.unusedVariables false
set_option linter.unusedSimpArgs false
set_option maxRecDepth 100000
open Go.RowKit Go.ChangeShapes Go.WideShapes Go.ChangeAt
theorem sp_dec (cs : List Value) (h : okAll [some .i64, some .i64] cs) : ∃ x : Sp, x.wf ∧ x.cs = cs := by
 rcases cs with _ | ⟨x, _ | ⟨y, _ | ⟨z, l⟩⟩⟩
 · exact h.elim
 · exact h.2.elim
 · obtain ⟨⟨a, rfl, ha⟩, ⟨b, rfl, hb⟩, _⟩ := h; have ha := bounds_i64 ha; have hb := bounds_i64 hb; exact ⟨⟨a, b⟩, ⟨ha.1, ha.2, hb.1, hb.2⟩, rfl⟩
 · exact h.2.2.elim
section
variable {H : Type} {enc : TypeId × Value → H} {W : World} {spare : Nat → Bool} {held : Bool}
theorem open_span {v : Value} {y : DataW H} {ps : List MemPlace} {base : Nat} {r : Reach} (hv : Value.okWide Tryz.prog W r base 25 v) {b : Nat} (h : DataW.Trod enc Tryz.prog W b spare held 25 v y ps) : ∃ s : Sp, s.wf ∧ v = s.v := by
 obtain ⟨cs, rfl, _⟩ := okWide_struct Tryz.underlying25 hv; have h1 := open_flat (d := 5) (ks := [some .i64, some .i64]) (by kernel_rfl) h; obtain ⟨s, hs, he⟩ := sp_dec _ h1; refine ⟨s, hs, ?_⟩; have : cs = #[.int .i64 s.f, .int .i64 s.t] := by
  apply Array.ext'; rw [← show _ = cs.toList from he]; rfl
 rw [this]
end
end Go.Proofs.YtoolooffpphmdaaGreatDoor
