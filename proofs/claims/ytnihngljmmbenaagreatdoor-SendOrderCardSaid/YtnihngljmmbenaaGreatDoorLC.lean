import Derived.Test.YtnihngljmmbenaaGreatDoorKB
namespace Go.Proofs.YtnihngljmmbenaaGreatDoor
set_option linter.unusedVariables false
set_option linter.unusedSimpArgs false
section
open Go.RowKit
attribute [local go_sem] over_drew chg_drew

def chF (id k : Nat) (c : List Sm) (cl : Bool) : Fr := ⟨id, ⟨k, 0, 0⟩, c.length, cl, 0, bitsC En.zero c⟩
def Sr.frs (s : Sr) (id : Nat) (n : Nat) : List Fr := (List.range n).flatMap fun k => match s.at_ k with
  | Option.some (c, cl) => if c = [] then [] else [chF id k c cl]
  | none => []
structure Fx where
  f : Fr
  a : Option Addr
  cap : Nat
def Fx.cs (x : Fx) : List Value := x.f.cs x.a x.cap
abbrev Fx.bv (x : Fx) : Value := .slice x.a (pack x.f.bits).length x.cap
theorem Fx.cs_len (x : Fx) : x.cs.length = 11 := rfl
theorem Fx.cs_one (x : Fx) : ∀ u ∈ x.cs, u.oneCell' = true := by intro u hu; simp [Fx.cs, Fr.cs] at hu; rcases hu with rfl | rfl | rfl | rfl | rfl | rfl | rfl | rfl | rfl | rfl | rfl <;> rfl
theorem frame_elem : ElemOf Tryz.prog 37 48 11 72 := elemOf (z := .agg #[.int .u8 0, .int .u32 0, .int .u32 0, .int .u32 0, .int .u32 0, .int .u32 0, .int .u32 0, .bool false, .int .u64 0, .slice none 0 0, .int .i64 0]) (by kernel_rfl) (by kernel_rfl) rfl (by decide)
abbrev OwnF (base : Nat) (w : World) (v : Value) (l : List Fx) : Prop := Own base 48 11 Fx.cs w v l
structure FrsAt (base : Nat) (w : World) (v : Value) (l : List Fx) : Prop where
  row : OwnF base w v l
  bits : ∀ x ∈ l, OwnB base w x.bv (pack x.f.bits)
  apart : ∀ x ∈ l, ∀ g, x.bv.ownBlock = some g → v.ownBlock ≠ some g
theorem FrsAt.ov {base : Nat} {w W : World} {v : Value} {l : List Fx} (h : FrsAt base w v l) (hW : ∃ e, W = over w e) : FrsAt base W v l := by
  obtain ⟨e, rfl⟩ := hW
  exact ⟨h.row.over e, fun x hx => (h.bits x hx).over e, h.apart⟩
theorem FrsAt.mono {base base' : Nat} {w : World} {v : Value} {l : List Fx} (h : FrsAt base w v l) (hb : base' ≤ base) : FrsAt base' w v l := ⟨h.row.mono hb, fun x hx => (h.bits x hx).mono hb, h.apart⟩
theorem FrsAt.nil (w : World) (base : Nat) : FrsAt base w (.slice none 0 0) [] := ⟨Own.nil w, by simp, by simp⟩
theorem FrsAt.push {base b : Nat} {w w' : World} {v v' : Value} {l : List Fx} {x : Fx} (h : FrsAt base w v l) (hx : OwnB b w x.bv (pack x.f.bits)) (hb : base ≤ b) (hv : ∀ g, v.ownBlock = some g → g < b) (hc : Chg v.ownBlock.toList w w')
    (ho : OwnF base w' v' (l ++ [x])) (hv' : v'.ownBlock = v.ownBlock ∨ ∃ g, v'.ownBlock = some g ∧ w.heap.size ≤ g) : FrsAt base w' v' (l ++ [x]) := by
  have hxa : ∀ g, x.bv.ownBlock = some g → v.ownBlock ≠ some g := fun g hg he => by have := (Own.lt hx hg).1; have := hv g he; omega
  have hne : ∀ y ∈ l ++ [x], (∀ g, y.bv.ownBlock = some g → v.ownBlock ≠ some g) ∧ OwnB base w y.bv (pack y.f.bits) := by
    intro y hy
    rcases List.mem_append.1 hy with hy | hy
    · exact ⟨h.apart y hy, h.bits y hy⟩
    · simp at hy; subst hy; exact ⟨hxa, hx.mono hb⟩
  refine ⟨ho, fun y hy => Own.chg (hne y hy).2 hc (fun g hg hm => (hne y hy).1 g hg (by simpa using hm)), fun y hy g hg => ?_⟩
  rcases hv' with hv' | ⟨g', hg', hl'⟩
  · rw [hv']; exact (hne y hy).1 g hg
  · rw [hg']; intro he; have := (Own.lt (hne y hy).2 hg).2; simp at he; omega
def CutW (w : World) (id k : Nat) (n : Nat) (cl : Bool) (l : List Bool) (BL : Nat) (en : Ending) (w' : World) : Prop :=
  ∃ a cap t0 t1 t2, en = .returned (.tuple #[.agg #[.int .u8 0, .int .u32 0, .int .u32 (id : Nat), .int .u32 (k : Nat), .int .u32 0, .int .u32 0, .int .u32 (n : Nat), .bool cl, .int .u64 0, .slice a (pack l).length cap, .int .i64 (BL : Nat)], .agg #[.int .u32 (t0 : Nat), .int .u32 (t1 : Nat), .int .u32 (t2 : Nat)], .int .u16 0]) ∧ (∃ e, w' = over w e) ∧ OwnB w.heap.size w' (.slice a (pack l).length cap) (pack l)
def ChsP (w : World) (fs : List Fr) (en : Ending) (w' : World) : Prop := (∃ e, w' = over w e) ∧ ∃ v l, en = .returned v ∧ l.map Fx.f = fs ∧ FrsAt w.heap.size w' v l
end
end Go.Proofs.YtnihngljmmbenaaGreatDoor
