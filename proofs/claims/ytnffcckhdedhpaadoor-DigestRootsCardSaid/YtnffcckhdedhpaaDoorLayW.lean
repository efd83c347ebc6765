import Derived.Test.YtnffcckhdedhpaaDoorHE
import Derived.Test.YtnffcckhdedhpaaDoorHF
namespace Go.Proofs.YtnffcckhdedhpaaDoor
set_option linter.unusedVariables false
set_option linter.unusedSimpArgs false
open Go.RowKit
attribute [local go_sem] over_drew chg_drew

def opsL (xs : List Opr) : List (Nat × Sm) := xs.map fun o => (o.id % 64, o.x)
def lsz (size : Int) : Nat := 1 + (max size 0).toNat % 24
def LayPost (w : World) (sz : Nat) (ops : List (Nat × Sm)) (en : Ending) (w' : World) : Prop :=
  ∃ b mb L a cap rs, en = .returned (.tuple #[.pointer (some ⟨b, 0, none⟩), .slice a (rs : List Rs).length cap]) ∧ (∃ e, w' = over w e) ∧ BkAt w.heap.size w' b 64 sz mb L ∧ bkOf L = layS sz ops ∧ Sl 2 Rs.cs w' a cap rs ∧ (∀ r ∈ rs, SlM w' r.a r.c r.l) ∧ rs.map (fun r => (r.id, r.l)) = allS (layS sz ops)
theorem SlR.at_ {w : World} {a : Option Addr} {cap : Nat} {xs : List Rs} (h : Sl 2 Rs.cs w a cap xs) {k : Nat} (hk : k < xs.length) :
    ∃ b off, a = some ⟨b, off, none⟩ ∧ b < w.heap.size ∧ w.cell? ⟨b, off + k * 2, none⟩ = some (.int .u32 (xs[k].id : Nat)) ∧ w.cell? ⟨b, off + k * 2 + 1, none⟩ = some (.slice xs[k].a xs[k].l.length xs[k].c) := by
  obtain ⟨b, off, rfl, hb, hcell⟩ := h.rec_ k xs[k] (List.getElem?_eq_getElem hk)
  exact ⟨b, off, rfl, hb, hcell 0 _ rfl, hcell 1 _ rfl⟩
theorem OwnR.at_ {base : Nat} {w : World} {v : Value} {xs : List Rs} (h : OwnR base w v xs) {k : Nat} (hk : k < xs.length) :
    ∃ g cap, v = .slice (some ⟨g, 0, none⟩) xs.length cap ∧ g < w.heap.size ∧ w.cell? ⟨g, k * 2, none⟩ = some (.int .u32 (xs[k].id : Nat)) ∧ w.cell? ⟨g, k * 2 + 1, none⟩ = some (.slice xs[k].a xs[k].l.length xs[k].c) ∧ w.frozen? ⟨g, k * 2 + 1, none⟩ = false := by
  obtain ⟨g, cap, rfl, hb, hg, hcell, hfr⟩ := Own.open_ Rs.cs_len h (by omega)
  exact ⟨g, cap, rfl, hg, hcell k _ (List.getElem?_eq_getElem hk) 0 _ rfl, hcell k _ (List.getElem?_eq_getElem hk) 1 _ rfl, hfr _⟩
end Go.Proofs.YtnffcckhdedhpaaDoor
