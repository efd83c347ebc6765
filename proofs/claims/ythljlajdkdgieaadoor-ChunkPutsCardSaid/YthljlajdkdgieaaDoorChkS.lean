/- Samples in memory. -/
import Derived.Test.YthljlajdkdgieaaDoorChkU
import Derived.Test.YthljlajdkdgieaaDoorChkQ
namespace Go.Proofs.YthljlajdkdgieaaDoor
set_option linter.unusedVariables false
set_option linter.unusedSimpArgs false
open Go.RowKit
def Sm.cs (s : Sm) : List Value := [.int .i64 s.t, .int .u64 (s.v : Nat)]
theorem Sm.cs_len (s : Sm) : s.cs.length = 2 := rfl
theorem Sm.cs_one (s : Sm) : ∀ u ∈ s.cs, u.oneCell' = true := by intro u hu; simp [Sm.cs] at hu; rcases hu with rfl | rfl <;> rfl
abbrev SlM (w : World) (a : Option Addr) (cap : Nat) (xs : List Sm) : Prop := Sl 2 Sm.cs w a cap xs
theorem SlM.at_ {w : World} {a : Option Addr} {cap : Nat} {xs : List Sm} (h : SlM w a cap xs) {k : Nat} (hk : k < xs.length) :
    ∃ b off, a = some ⟨b, off, none⟩ ∧ b < w.heap.size ∧ w.cell? ⟨b, off + k * 2, none⟩ = some (.int .i64 xs[k].t) ∧ w.cell? ⟨b, off + k * 2 + 1, none⟩ = some (.int .u64 (xs[k].v : Nat)) := by
  obtain ⟨b, off, rfl, hb, hcell⟩ := h.rec_ k xs[k] (List.getElem?_eq_getElem hk)
  have h0 := hcell 0 _ rfl
  have h1 := hcell 1 _ rfl
  rw [Nat.add_zero] at h0
  exact ⟨b, off, rfl, hb, h0, h1⟩
/-- Bits of the call's own, what is known, an error. -/
def CoPost (w : World) (p : List Bool × En × Nat) (en : Ending) (w' : World) : Prop :=
  ∃ a c, en = .returned (cpV a (pack p.1).length c p.1.length p.2.1 p.2.2) ∧ (∃ x, w' = over w x) ∧ OwnB w.heap.size w' (.slice a (pack p.1).length c) (pack p.1)
/-- The document's. -/
def RcoPost (w : World) (p : List Bool × En × Nat) (en : Ending) (w' : World) : Prop :=
  ∃ a c, en = .returned (.tuple #[bv a (pack p.1).length c p.1.length, p.2.1.v, .int .i64 (p.2.2 : Nat)]) ∧ (∃ x, w' = over w x) ∧ OwnB w.heap.size w' (.slice a (pack p.1).length c) (pack p.1)
end Go.Proofs.YthljlajdkdgieaaDoor
