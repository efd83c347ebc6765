/- Texts merged: MapR, RngM, Keys, SrtA, Ser. -/
import Derived.Test.YtneeikjiabpjhaaGreatDoorHB
import Derived.Maps.RangeRun
import Derived.Laws.IdiomRangeMap
import Derived.Test.YtneeikjiabpjhaaGreatDoorRng
import Derived.Test.YtneeikjiabpjhaaGreatDoorGA
import Derived.Test.YtneeikjiabpjhaaGreatDoorChecked
import Derived.Deep.Cut
import Derived.Test.YtneeikjiabpjhaaGreatDoorLA
import Derived.Sort.OwnSorted
import Derived.Test.YtneeikjiabpjhaaGreatDoorHD
namespace Go.Proofs.YtneeikjiabpjhaaGreatDoor
set_option linter.unusedVariables false
set_option linter.unusedSimpArgs false
open Go.RowKit Go.ChangeMaps

def RngAt (w : World) (b r : Nat) (m : List (Nat × Value)) (seen : List Nat) : Prop :=
  b ≠ r ∧ seen.Nodup ∧ (∀ i ∈ seen, i < m.length) ∧ ∃ (es : Array MapEntry) (clock : Nat) (sn : Array Nat), w.heap[b]? = some (.map es clock) ∧ es.toList.map (fun e => (e.key, e.val)) = (m.map fun x => (Value.int .u32 (x.1 : Nat), x.2)) ∧ (es.toList.map (·.born)).Nodup ∧ (∀ e ∈ es.toList, e.born < clock) ∧
    w.heap[r]? = some (.mapIter (some b) clock sn clock) ∧ sn.toList = seen.map (fun i => (es.toList[i]!).born)
theorem RngAt.map {w : World} {b r : Nat} {m : List (Nat × Value)} {seen : List Nat} (h : RngAt w b r m seen) : MapAt w b m := by
  obtain ⟨_, _, _, es, clock, sn, hb, he, hn, hbo, _, _⟩ := h
  exact ⟨es, clock, hb, he, hn, hbo⟩
theorem RngAt.lt {w : World} {b r : Nat} {m : List (Nat × Value)} {seen : List Nat} (h : RngAt w b r m seen) : r < w.heap.size := by
  obtain ⟨_, _, _, es, clock, sn, _, _, _, _, hr, _⟩ := h
  exact (Array.getElem?_eq_some_iff.1 hr).1
theorem RngAt.chg {w w' : World} {b r : Nat} {m : List (Nat × Value)} {seen : List Nat} {F : List Nat} (h : RngAt w b r m seen) (hc : Chg F w w') (hb' : b ∉ F) (hr' : r ∉ F) : RngAt w' b r m seen := by
  have h1 := h.map.lt
  have h2 := h.lt
  obtain ⟨a1, a2, a3, es, clock, sn, hb, he, hn, hbo, hr, hs⟩ := h
  exact ⟨a1, a2, a3, es, clock, sn, (hc.block b h1 hb').trans hb, he, hn, hbo, (hc.block r h2 hr').trans hr, hs⟩
section
variable {P : Program}
end
def rngLeft (w : World) (r n : Nat) : Nat := match w.heap[r]? with
  | some (.mapIter _ _ sn _) => n - sn.size
  | _ => 0
end Go.Proofs.YtneeikjiabpjhaaGreatDoor
namespace Go.Proofs.YtneeikjiabpjhaaGreatDoor
set_option linter.unusedVariables false
set_option linter.unusedSimpArgs false
open Go.RowKit
section
variable {P : Program}
end
end Go.Proofs.YtneeikjiabpjhaaGreatDoor
namespace Go.Proofs.YtneeikjiabpjhaaGreatDoor
set_option linter.unusedVariables false
set_option linter.unusedSimpArgs false
open Go.RowKit
attribute [local go_sem] over_drew chg_drew

end Go.Proofs.YtneeikjiabpjhaaGreatDoor
namespace Go.Proofs.YtneeikjiabpjhaaGreatDoor
set_option linter.unusedVariables false
set_option linter.unusedSimpArgs false
open Go.Sort Go.RowKit
def wcs (n : Nat) : List Value := [.int .u32 (n : Nat)]
abbrev OwnW (base : Nat) (w : World) (v : Value) (l : List Nat) : Prop := Own base 23 1 wcs w v l
abbrev SlW (w : World) (a : Option Addr) (cap : Nat) (xs : List Nat) : Prop := Sl 1 wcs w a cap xs
def srtN (l : List Nat) : List Nat := l.mergeSort fun x y => decide (x ≤ y)
end Go.Proofs.YtneeikjiabpjhaaGreatDoor
namespace Go.Proofs.YtneeikjiabpjhaaGreatDoor
set_option linter.unusedVariables false
set_option linter.unusedSimpArgs false
open Go.RowKit
attribute [local go_sem] over_drew chg_drew

def keyAt (m : List (Nat × Value)) (i : Nat) : Nat := (m[i]!).1
structure ApI (w : World) (b base : Nat) (m : List (Nat × Value)) (s : List Nat) (W : World) : Prop where
  ov : ∃ e, W = over w e
  bx : ∃ v, Blk W b [v] 264 ∧ OwnW base W v (s.map (keyAt m))
  nd : s.Nodup ∧ ∀ i ∈ s, i < m.length
def KsRes (w : World) (m : List (Nat × Value)) (en : Ending) (w' : World) : Prop :=
  (∃ e, w' = over w e) ∧ ∃ v ks, en = .returned v ∧ ks.Perm (m.map (·.1)) ∧ OwnW w.heap.size w' v ks
def SerRes (w : World) (ks : List Nat) (en : Ending) (w' : World) : Prop := (∃ e, w' = over w e) ∧ ∃ v, en = .returned v ∧ OwnW w.heap.size w' v ks
end Go.Proofs.YtneeikjiabpjhaaGreatDoor
