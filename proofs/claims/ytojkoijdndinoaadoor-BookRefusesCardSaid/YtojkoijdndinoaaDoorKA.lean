/- Texts merged: FolO, FndQ, FndP, AggP, StpP, StpU. -/
import Derived.Test.YtojkoijdndinoaaDoorHD
import Derived.Test.YtojkoijdndinoaaDoorGF
namespace Go.Proofs.YtojkoijdndinoaaDoor
set_option linter.unusedVariables false
set_option linter.unusedSimpArgs false
open Go.RowKit
theorem getS_mem {S : List (Nat × Sr)} {P : Sr → Prop} (h : ∀ x ∈ S, P x.2) (h0 : P Sr.zero) (id : Nat) : P (getS S id) := by
  unfold getS
  cases hq : S.find? (fun x => x.1 == id) with
  | none => exact h0
  | some y => exact h y (List.mem_of_find?_eq_some hq)
end Go.Proofs.YtojkoijdndinoaaDoor
namespace Go.Proofs.YtojkoijdndinoaaDoor
set_option linter.unusedVariables false
set_option linter.unusedSimpArgs false
open Go.RowKit

def RiseL (l : List Sm) : Prop := l.Pairwise (fun a b => a.t < b.t)
def fromN (l : List Sm) (t : Int) : Nat := (l.filter fun x => decide (x.t < t)).length
def behindN (l : List Sm) (t : Int) : Nat := (l.filter fun x => decide (x.t ≤ t)).length
def betw (l : List Sm) (a b : Int) : List Sm := l.filter fun x => decide (a ≤ x.t) && decide (x.t ≤ b)
end Go.Proofs.YtojkoijdndinoaaDoor
namespace Go.Proofs.YtojkoijdndinoaaDoor
set_option linter.unusedVariables false
set_option linter.unusedSimpArgs false
open Go.RowKit

end Go.Proofs.YtojkoijdndinoaaDoor
namespace Go.Proofs.YtojkoijdndinoaaDoor
set_option linter.unusedVariables false
set_option linter.unusedSimpArgs false
open Go.RowKit

structure Ag where
  n : Nat
  f : Sm
  l : Sm
  mn : Nat
  mx : Nat
  hi : Nat
  lo : Nat
  deriving DecidableEq
def Ag.zero : Ag := ⟨0, ⟨0, 0⟩, ⟨0, 0⟩, 0, 0, 0, 0⟩
def sumV (l : List Sm) : Nat := (l.map (·.v)).sum
def mnV (m : Nat) (l : List Sm) : Nat := l.foldl (fun a y => min a y.v) m
def mxV (m : Nat) (l : List Sm) : Nat := l.foldl (fun a y => max a y.v) m
def agC : List Sm → Ag
  | [] => Ag.zero
  | x :: l => ⟨l.length + 1, x, (x :: l).getLast (by simp), mnV x.v l, mxV x.v l, sumV (x :: l) / 18446744073709551616, sumV (x :: l) % 18446744073709551616⟩
def agJ (a b : Ag) : Ag :=
  if a.n = 0 then b else if b.n = 0 then a else
    ⟨a.n + b.n, a.f, b.l, min a.mn b.mn, max a.mx b.mx, a.hi + b.hi + (a.lo + b.lo) / 18446744073709551616, (a.lo + b.lo) % 18446744073709551616⟩
end Go.Proofs.YtojkoijdndinoaaDoor
namespace Go.Proofs.YtojkoijdndinoaaDoor
set_option linter.unusedVariables false
set_option linter.unusedSimpArgs false
open Go.RowKit

def keyB (fr : Int) (st : Nat) (x : Sm) : Nat := (x.t - fr).toNat / st
structure StepG (fr : Int) (st : Nat) (all : List Sm) (gs : List (Nat × List Sm)) (rest : List Sm) : Prop where
  flat : (gs.map (·.2)).flatten ++ rest = all
  ne : ∀ g ∈ gs, g.2 ≠ []
  key : ∀ g ∈ gs, ∀ x ∈ g.2, keyB fr st x = g.1
  sort : gs.Pairwise (fun a b => a.1 < b.1)
  sep : ∀ g ∈ gs, ∀ x ∈ rest, g.1 < keyB fr st x
theorem StepG.nil (fr : Int) (st : Nat) (all : List Sm) : StepG fr st all [] all := ⟨rfl, by simp, by simp, by simp, by simp⟩
theorem keyB_mono {fr : Int} {st : Nat} {x y : Sm} (h : x.t ≤ y.t) : keyB fr st x ≤ keyB fr st y := Nat.div_le_div_right (by omega)
theorem StepG.step {fr : Int} {st : Nat} {all : List Sm} {gs : List (Nat × List Sm)} {rest : List Sm} (h : StepG fr st all gs rest) (hr : RiseL all) {n k : Nat} (hn : 0 < n) (hnl : n ≤ rest.length) (hk : ∀ x ∈ rest.take n, keyB fr st x = k) (hx : ∀ hl : n < rest.length, keyB fr st rest[n] ≠ k) :
    StepG fr st all (gs ++ [(k, rest.take n)]) (rest.drop n) := by
  have hrr : RiseL rest := by
    rw [← h.flat] at hr
    exact (List.pairwise_append.1 hr).2.1
  have h0 : 0 < rest.length := by omega
  have hk0 : keyB fr st rest[0] = k := hk _ (by rw [List.mem_take_iff_getElem]; exact ⟨0, by omega, rfl⟩)
  refine ⟨?_, fun g hg => ?_, fun g hg => ?_, ?_, fun g hg x hxm => ?_⟩
  · rw [List.map_append, List.flatten_append]
    simp only [List.map_cons, List.map_nil, List.flatten_cons, List.flatten_nil, List.append_nil]
    rw [List.append_assoc, List.take_append_drop]
    exact h.flat
  · rcases List.mem_append.1 hg with h1 | h1
    · exact h.ne g h1
    · rw [List.mem_singleton] at h1; subst h1
      intro e
      have h2 : (rest.take n).length = 0 := by rw [show rest.take n = [] from e]; rfl
      rw [List.length_take] at h2; omega
  · rcases List.mem_append.1 hg with h1 | h1
    · exact h.key g h1
    · rw [List.mem_singleton] at h1; subst h1
      exact hk
  · refine List.pairwise_append.2 ⟨h.sort, by simp, fun a ha b hb => ?_⟩
    rw [List.mem_singleton] at hb; subst hb
    have := h.sep a ha rest[0] (List.getElem_mem _)
    rw [hk0] at this
    exact this
  · rcases List.mem_append.1 hg with h1 | h1
    · exact h.sep g h1 x (List.mem_of_mem_drop hxm)
    · rw [List.mem_singleton] at h1; subst h1
      obtain ⟨j, hj, rfl⟩ := List.mem_drop_iff_getElem.1 hxm
      have hnl2 : n < rest.length := by omega
      have h2 := hx hnl2
      have h3 : k ≤ keyB fr st rest[n] := by
        rw [← hk0]
        have := (List.pairwise_iff_getElem.1 hrr) 0 n h0 hnl2 hn
        exact keyB_mono (by omega)
      have h4 : keyB fr st rest[n] ≤ keyB fr st rest[n + j] := by
        rcases Nat.eq_zero_or_pos j with e | e
        · subst e; exact Nat.le_refl _
        · have := (List.pairwise_iff_getElem.1 hrr) n (n + j) hnl2 (by omega) (by omega)
          exact keyB_mono (by omega)
      show k < _
      omega
theorem StepG.len {fr : Int} {st : Nat} {all : List Sm} {gs : List (Nat × List Sm)} {rest : List Sm} (h : StepG fr st all gs rest) : gs.length + rest.length ≤ all.length := by
  rw [← h.flat, List.length_append]
  have : ∀ gs : List (Nat × List Sm), (∀ g ∈ gs, g.2 ≠ []) → gs.length ≤ ((gs.map (·.2)).flatten).length := by
    intro gs
    induction gs with
    | nil => intro _; simp
    | cons g gs ih =>
      intro hg
      have h1 := ih (fun x hx => hg x (by simp [hx]))
      have h2 : 0 < g.2.length := List.length_pos_iff.2 (hg g (by simp))
      simp only [List.map_cons, List.flatten_cons, List.length_append, List.length_cons]
      omega
  have := this gs h.ne
  omega
theorem StepG.time {fr : Int} {st : Nat} (hst : 0 < st) {all : List Sm} {gs : List (Nat × List Sm)} {rest : List Sm} (h : StepG fr st all gs rest) (hf : ∀ x ∈ all, fr ≤ x.t) {g : Nat × List Sm} (hg : g ∈ gs) {x : Sm} (hx : x ∈ g.2) : fr + g.1 * st ≤ x.t ∧ x.t < fr + g.1 * st + st := by
  have hxa : x ∈ all := by
    rw [← h.flat]
    refine List.mem_append_left _ (List.mem_flatten.2 ⟨g.2, List.mem_map.2 ⟨g, hg, rfl⟩, hx⟩)
  have h1 := hf x hxa
  have h2 := h.key g hg x hx
  unfold keyB at h2
  have h3 := Nat.div_add_mod (x.t - fr).toNat st
  have h4 := Nat.mod_lt (x.t - fr).toNat hst
  rw [h2] at h3
  have h5 : (g.1 : Int) * (st : Int) = ((st * g.1 : Nat) : Int) := by rw [Nat.mul_comm]; push_cast; rfl
  rw [h5]
  omega
end Go.Proofs.YtojkoijdndinoaaDoor
namespace Go.Proofs.YtojkoijdndinoaaDoor
set_option linter.unusedVariables false
set_option linter.unusedSimpArgs false
open Go.RowKit

structure Grp (fr : Int) (st : Nat) (gs : List (Nat × List Sm)) : Prop where
  ne : ∀ g ∈ gs, g.2 ≠ []
  key : ∀ g ∈ gs, ∀ x ∈ g.2, keyB fr st x = g.1
  sort : gs.Pairwise (fun a b => a.1 < b.1)
def k25 : List Sm := [⟨1, 2⟩, ⟨3, 5⟩, ⟨9, 1⟩]
end Go.Proofs.YtojkoijdndinoaaDoor
