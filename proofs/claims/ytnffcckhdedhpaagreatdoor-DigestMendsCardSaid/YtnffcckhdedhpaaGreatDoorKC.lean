import Derived.Test.YtnffcckhdedhpaaGreatDoorKA
import Derived.Test.YtnffcckhdedhpaaGreatDoorGF
import Derived.Test.YtnffcckhdedhpaaGreatDoorHB
import Derived.Test.YtnffcckhdedhpaaGreatDoorGM
namespace Go.Proofs.YtnffcckhdedhpaaGreatDoor
set_option linter.unusedVariables false
set_option linter.unusedSimpArgs false
section
open Go.RowKit
structure Rc where
 a : Option Addr
 c : Nat
 l : List Sm
 cl : Bool
instance : Inhabited Rc := ⟨⟨none, 0, [], false⟩⟩
def Rc.cs (x : Rc) : List Value := [.slice x.a x.l.length x.c, .bool x.cl]
theorem Rc.cs_len (x : Rc) : x.cs.length = 2 := rfl
theorem Rc.cs_one (x : Rc) : ∀ u ∈ x.cs, u.oneCell' = true := by intro u hu; simp [Rc.cs] at hu; rcases hu with rfl | rfl <;> rfl
structure Rr where
 id : Nat
 a : Option Addr
 c : Nat
 k : List Rc
instance : Inhabited Rr := ⟨⟨0, none, 0, []⟩⟩
def Rr.cs (x : Rr) : List Value := [.int .u32 (x.id : Nat), .slice x.a x.k.length x.c]
theorem Rr.cs_len (x : Rr) : x.cs.length = 2 := rfl
theorem Rr.cs_one (x : Rr) : ∀ u ∈ x.cs, u.oneCell' = true := by intro u hu; simp [Rr.cs] at hu; rcases hu with rfl | rfl <;> rfl
def Rc.p (x : Rc) : List Sm × Bool := (x.l, x.cl)
end
section
open Go.RowKit
attribute [local go_sem] odr cdr
theorem SlC.at_ {w : World} {a : Option Addr} {cap : Nat} {xs : List Rc} (h : Sl 2 Rc.cs w a cap xs) {k : Nat} (hk : k < xs.length) :
    ∃ b off, a = some ⟨b, off, none⟩ ∧ b < w.heap.size ∧ w.cell? ⟨b, off + k * 2, none⟩ = some (.slice xs[k].a xs[k].l.length xs[k].c) ∧ w.cell? ⟨b, off + k * 2 + 1, none⟩ = some (.bool xs[k].cl) := by
  obtain ⟨b, off, rfl, hb, hcell⟩ := h.rec_ k xs[k] (List.getElem?_eq_getElem hk); have h0 := hcell 0 _ rfl; rw [Nat.add_zero] at h0; exact ⟨b, off, rfl, hb, h0, hcell 1 _ rfl⟩
end
end Go.Proofs.YtnffcckhdedhpaaGreatDoor
