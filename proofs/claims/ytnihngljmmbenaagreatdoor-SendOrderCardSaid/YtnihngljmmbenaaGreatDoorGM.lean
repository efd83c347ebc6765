import Derived.Test.YtnihngljmmbenaaGreatDoorGF
namespace Go.Proofs.YtnihngljmmbenaaGreatDoor
set_option linter.unusedVariables false
set_option linter.unusedSimpArgs false
section
open Go.RowKit
attribute [local go_sem] over_drew chg_drew

def En.cs (e : En) : List Value := [.int .i64 e.n, .int .i64 e.last, .int .i64 e.delta, .bool e.val.has, .int .u64 (e.val.prev : Nat), .int .u8 (e.val.lead : Nat), .int .u8 (e.val.width : Nat)]

structure OfRel (w : World) (p1 p2 p3 p4 : Nat) (xs : List Sm) (k : Nat) (wr : World) : Prop where
  ov : ∃ e, wr = over w e
  good : goodC En.zero (xs.take k)
  b1 : Blk wr p1 [.slice none 0 0, .int .i64 0] 46
  b2 : Blk wr p2 En.zero.cs 121
  b3 : ∃ a c, Blk wr p3 [.slice a (pack (bitsC En.zero (xs.take k))).length c, .int .i64 ((bitsC En.zero (xs.take k)).length : Nat)] 46 ∧ OwnB (p4 + 1) wr (.slice a (pack (bitsC En.zero (xs.take k))).length c) (pack (bitsC En.zero (xs.take k)))
  b4 : Blk wr p4 (knowC En.zero (xs.take k)).cs 121

section
variable {W e8 : World} {p3 p4 : Nat} {u0 u1 v0 v1 v2 v3 v4 v5 v6 : Value} {lit : Obj}
end
end
section
open Go.RowKit
attribute [local go_sem] over_drew

def kC1 : List Bool := (ofC [⟨10, 1⟩, ⟨20, 1⟩]).1
def kC2 : List Bool := kC1 ++ (laid ⟨2, 20, 10, ⟨true, 1, 0, 0⟩⟩ 30 1).1
def CpN (w : World) (L : List Bool) (N : Int) (ev : Value) (en : Ending) (w' : World) : Prop :=
  ∃ a c, en = .returned (.tuple #[bv a (pack L).length c N, ev, .int .u16 0]) ∧ (∃ x, w' = over w x) ∧ SlB w' a c (pack L)
theorem CpOwn.n {w w' : World} {L : List Bool} {e : En} {en : Ending} (h : CpOwn w L e en w') {N : Int} (hN : (L.length : Int) = N) {ev : Value} (ht : e.v = ev) : CpN w L N ev en w' := by
  subst hN ht; obtain ⟨a, c, h1, h2, h3⟩ := h; exact ⟨a, c, h1, h2, (Own.slice' bcs_len h3).2⟩
theorem CoPost.n {w w' : World} {L : List Bool} {e : En} {en : Ending} (h : CoPost w (L, e, 0) en w') {N : Int} (hN : (L.length : Int) = N) {ev : Value} (ht : e.v = ev) : CpN w L N ev en w' := by
  subst hN ht; obtain ⟨a, c, h1, h2, h3⟩ := h; exact ⟨a, c, h1, h2, (Own.slice' bcs_len h3).2⟩
end
section
open Go.RowKit
attribute [local go_sem] over_drew chg_drew

theorem sample_elem : ElemOf Tryz.prog 58 70 2 16 := elemOf (z := .agg #[.int .i64 0, .int .u64 0]) (by kernel_rfl) (by kernel_rfl) rfl (by decide)
abbrev OwnM (base : Nat) (w : World) (v : Value) (l : List Sm) : Prop := Own base 70 2 Sm.cs w v l

def rstep (acc : List Sm) (x : Sm) : List Sm := if comes (knowC En.zero acc) x.t then acc ++ [x] else acc
def riseC (xs : List Sm) : List Sm := xs.foldl rstep []
end
end Go.Proofs.YtnihngljmmbenaaGreatDoor
