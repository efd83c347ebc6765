/- Spans of time, plain: what the calls of package span and of its reference compute, on lists of pairs of integers. -/
import Derived.Test.YtbkekpfancbemaaLib
namespace Go.Proofs.Ytbkekpfancbemaa
set_option linter.unusedVariables false
set_option linter.unusedSimpArgs false
open Go.RowKit

structure Sp where
  f : Int
  t : Int
  deriving Inhabited, DecidableEq

namespace Sp
def cs (x : Sp) : List Value := [.int .i64 x.f, .int .i64 x.t]
abbrev v (x : Sp) : Value := .agg #[.int .i64 x.f, .int .i64 x.t]
def wf (x : Sp) : Prop := -9223372036854775808 ≤ x.f ∧ x.f ≤ 9223372036854775807 ∧ -9223372036854775808 ≤ x.t ∧ x.t ≤ 9223372036854775807
theorem cs_len (x : Sp) : x.cs.length = 2 := rfl
end Sp

abbrev SlS (w : World) (a : Option Addr) (cap : Nat) (xs : List Sp) : Prop := Sl 2 Sp.cs w a cap xs

theorem SlS.at_ {w : World} {a : Option Addr} {cap : Nat} {xs : List Sp} (h : SlS w a cap xs) {k : Nat} (hk : k < xs.length) :
    ∃ b off, a = some ⟨b, off, none⟩ ∧ b < w.heap.size ∧ w.cell? ⟨b, off + k * 2, none⟩ = some (.int .i64 xs[k].f) ∧ w.cell? ⟨b, off + k * 2 + 1, none⟩ = some (.int .i64 xs[k].t) := by
  obtain ⟨b, off, rfl, hb, hcell⟩ := h.rec_ k xs[k] (List.getElem?_eq_getElem hk)
  exact ⟨b, off, rfl, hb, hcell 0 _ rfl, hcell 1 _ rfl⟩

def apartB (a b : Sp) : Bool := decide (a.t + 1 < b.f)

def soundB : List Sp → Bool
  | [] => true
  | x :: l => decide (x.f ≤ x.t) && (match l with | [] => true | y :: _ => apartB x y) && soundB l

theorem soundB_iff : ∀ xs : List Sp, soundB xs = true ↔ ∀ i (h : i < xs.length), xs[i].f ≤ xs[i].t ∧ (0 < i → apartB xs[i - 1] xs[i] = true)
  | [] => by simp [soundB]
  | [x] => by
    simp [soundB]
  | x :: y :: l => by
    have ih := soundB_iff (y :: l)
    simp only [soundB, Bool.and_eq_true, decide_eq_true_eq] at ih ⊢
    constructor
    · rintro ⟨⟨h1, h2⟩, h3⟩ i hi
      have h4 := ih.1 h3
      rcases i with _ | i
      · exact ⟨h1, fun h => absurd h (Nat.lt_irrefl _)⟩
      · obtain ⟨h5, h6⟩ := h4 i (by simpa using hi)
        refine ⟨by simpa using h5, fun _ => ?_⟩
        rcases i with _ | i
        · simpa using h2
        · simpa using h6 (by omega)
    · intro h
      refine ⟨⟨(h 0 (by simp)).1, (h 1 (by simp)).2 (by omega)⟩, ih.2 fun i hi => ?_⟩
      obtain ⟨h5, h6⟩ := h (i + 1) (by simpa using hi)
      refine ⟨by simpa using h5, fun h0 => ?_⟩
      rcases i with _ | i
      · omega
      · simpa using h6 (by omega)

theorem soundB_bad1 {xs : List Sp} {k : Nat} (hk : k < xs.length) (h : decide (xs[k].t < xs[k].f) = true) : soundB xs = false := by
  cases hs : soundB xs with
  | false => rfl
  | true => have h1 := ((soundB_iff xs).1 hs k hk).1; have h2 := of_decide_eq_true h; omega

theorem soundB_bad2 {xs : List Sp} {k : Nat} (hk : k < xs.length) (h0 : 0 < k) (h : apartB xs[k - 1] xs[k] = false) : soundB xs = false := by
  cases hs : soundB xs with
  | false => rfl
  | true => have h1 := ((soundB_iff xs).1 hs k hk).2 h0; rw [h] at h1; cases h1

/-- What is sound up to k. -/
def soundTo (xs : List Sp) (k : Nat) : Prop := ∀ i (_ : i < k) (h : i < xs.length), xs[i].f ≤ xs[i].t ∧ (0 < i → apartB xs[i - 1] xs[i] = true)

theorem soundTo_zero (xs : List Sp) : soundTo xs 0 := fun i h => absurd h (Nat.not_lt_zero i)
theorem soundTo_succ {xs : List Sp} {k : Nat} (h : soundTo xs k) (hk : k < xs.length) (h1 : decide (xs[k].t < xs[k].f) = false) (h2 : 0 < k → apartB xs[k - 1] xs[k] = true) : soundTo xs (k + 1) := by
  intro i hi hl
  rcases Nat.lt_or_ge i k with hlt | hge
  · exact h i hlt hl
  · obtain rfl : i = k := by omega
    have := of_decide_eq_false h1
    exact ⟨by omega, h2⟩
theorem soundTo_all {xs : List Sp} {k : Nat} (h : soundTo xs k) (hk : ¬ k < xs.length) : soundB xs = true :=
  (soundB_iff xs).2 fun i hi => h i (by omega) hi

/-! ### What the calls compute -/

def mrg (s x : Sp) : Sp := ⟨if x.f < s.f then x.f else s.f, if s.t < x.t then x.t else s.t⟩
/-- 'Add', behind its test: the spans that are left, the span, those told. -/
def addGo : List Sp → Sp → List Sp → List Sp
  | [], s, out => out ++ [s]
  | x :: l, s, out =>
    if apartB x s then addGo l s (out ++ [x])
    else if apartB s x then addGo l x (out ++ [s])
    else addGo l (mrg s x) out

theorem mrg_wf {s x : Sp} (h : s.wf) (h' : x.wf) : (mrg s x).wf := by unfold Sp.wf mrg at *; simp only; split <;> split <;> omega

def okSp (l : List Sp) (s : Sp) : Bool := soundB l && decide (s.f ≤ s.t)
def addS (l : List Sp) (s : Sp) : List Sp := if okSp l s then addGo l s [] else []

/-- 'Drop' of one span. -/
def dropOne (s x : Sp) : List Sp :=
  if s.t < x.f then [x] else (if x.f < s.f then [⟨x.f, s.f - 1⟩] else []) ++ (if s.t < x.t then [⟨s.t + 1, x.t⟩] else [])
def dropGo (s : Sp) (l : List Sp) : List Sp := l.flatMap (dropOne s)
/-- how many spans end ahead of a time -/
def findS (l : List Sp) (t : Int) : Nat := (l.takeWhile fun x => decide (x.t < t)).length
def dropS (l : List Sp) (s : Sp) : List Sp := if okSp l s then l.take (findS l s.f) ++ dropGo s (l.drop (findS l s.f)) else []

def hasS (l : List Sp) (t : Int) : Bool := l.any fun s => decide (s.f ≤ t) && decide (t ≤ s.t)

def meet2 (x y : Sp) : Sp := ⟨if x.f < y.f then y.f else x.f, if y.t < x.t then y.t else x.t⟩
def meetPut (x y : Sp) (out : List Sp) : List Sp := if decide ((meet2 x y).f ≤ (meet2 x y).t) then out ++ [meet2 x y] else out
def meetGo : Nat → List Sp → List Sp → List Sp → List Sp
  | 0, _, _, out => out
  | n + 1, x :: a, y :: b, out => if decide (x.t < y.t) then meetGo n a (y :: b) (meetPut x y out) else meetGo n (x :: a) b (meetPut x y out)
  | _ + 1, _, _, out => out
def meetS (a b : List Sp) : List Sp := if soundB a && soundB b then meetGo (a.length + b.length) a b [] else []

theorem meetGo_a {xs ys zs : List Sp} (hx : 0 < xs.length) (hy : 0 < ys.length) (h : decide (xs[0].t < ys[0].t) = true) :
    meetGo (xs.length + ys.length) xs ys zs = meetGo ((xs.drop 1).length + ys.length) (xs.drop 1) ys (meetPut xs[0] ys[0] zs) := by
  cases xs with
  | nil => simp at hx
  | cons x a =>
    cases ys with
    | nil => simp at hy
    | cons y b =>
      rw [show (x :: a).length + (y :: b).length = (a.length + (y :: b).length) + 1 by simp; omega]
      simp only [List.getElem_cons_zero] at h
      simp [meetGo, h]
theorem meetGo_b {xs ys zs : List Sp} (hx : 0 < xs.length) (hy : 0 < ys.length) (h : decide (xs[0].t < ys[0].t) = false) :
    meetGo (xs.length + ys.length) xs ys zs = meetGo (xs.length + (ys.drop 1).length) xs (ys.drop 1) (meetPut xs[0] ys[0] zs) := by
  cases xs with
  | nil => simp at hx
  | cons x a =>
    cases ys with
    | nil => simp at hy
    | cons y b =>
      rw [show (x :: a).length + (y :: b).length = ((x :: a).length + b.length) + 1 by simp; omega]
      simp only [List.getElem_cons_zero] at h
      simp [meetGo, h]
theorem meetGo_end {xs ys zs : List Sp} {n : Nat} (h : xs.length = 0 ∨ ys.length = 0) : meetGo n xs ys zs = zs := by
  cases n with
  | zero => rfl
  | succ n =>
    cases xs with
    | nil => cases ys <;> rfl
    | cons x a =>
      cases ys with
      | nil => rfl
      | cons y b => simp at h
theorem meetPut_yes {x y : Sp} {out : List Sp} (h : decide ((meet2 x y).f ≤ (meet2 x y).t) = true) : meetPut x y out = out ++ [meet2 x y] := by simp only [meetPut, h, if_true]
theorem meetPut_no {x y : Sp} {out : List Sp} (h : decide ((meet2 x y).f ≤ (meet2 x y).t) = false) : meetPut x y out = out := by simp only [meetPut, h]; rfl

/-- how many times -/
def cnt : List Sp → Int
  | [] => 0
  | s :: l => (s.t - s.f + 1) + cnt l
def cntW (l : List Sp) : Int := IntKind.u64.wrap (cnt l)
def countV (l : List Sp) : Value := if soundB l then .tuple #[.int .u64 (cntW l), .bool (decide (0 < cntW l) || l.isEmpty)] else .tuple #[.int .u64 0, .bool false]

theorem cnt_snoc (l : List Sp) (s : Sp) : cnt (l ++ [s]) = cnt l + (s.t - s.f + 1) := by
  induction l with
  | nil => simp [cnt]
  | cons x l ih => simp only [List.cons_append, cnt, ih]; omega
theorem cntW_step (l : List Sp) (s : Sp) : IntKind.u64.wrap (cntW l + IntKind.u64.wrap (IntKind.u64.wrap (wrap64 (s.t - s.f)) + 1)) = cntW (l ++ [s]) := by
  unfold cntW; rw [cnt_snoc]; simp only [IntKind.wrap_u64]; unfold wrap64; omega
theorem cntW_step' (l : List Sp) (s : Sp) : IntKind.u64.wrap (cntW l + IntKind.u64.wrap (IntKind.u64.wrap (IntKind.u64.wrap s.t - IntKind.u64.wrap s.f) + 1)) = cntW (l ++ [s]) := by
  unfold cntW; rw [cnt_snoc]; simp only [IntKind.wrap_u64]; omega
theorem take_snoc' {α : Type} {xs : List α} {k : Nat} (h : k < xs.length) : xs.take (k + 1) = xs.take k ++ [xs[k]] := by
  rw [List.take_succ_eq_append_getElem h]
theorem cntW_nil : cntW [] = 0 := by simp [cntW, cnt, IntKind.wrap_u64]
theorem countV_ok {l : List Sp} {N : Int} {b : Bool} (hs : soundB l = true) (hN : N = cntW (l.take l.length)) (hb : b = (decide (0 < N) || l.isEmpty)) : Value.tuple #[.int .u64 N, .bool b] = countV l := by
  rw [List.take_length] at hN
  subst hN; subst hb
  simp [countV, hs]
theorem countV_no {l : List Sp} (hs : soundB l = false) : Value.tuple #[.int .u64 0, .bool false] = countV l := by simp [countV, hs]

theorem hasS_hit {l : List Sp} {t : Int} {k : Nat} (h : k < l.length) (h1 : decide (l[k].f ≤ t) = true) (h2 : decide (t ≤ l[k].t) = true) : hasS l t = true := by
  unfold hasS
  rw [List.any_eq_true]
  exact ⟨l[k], List.getElem_mem h, by rw [h1, h2]; rfl⟩
theorem hasS_step {l : List Sp} {t : Int} {k : Nat} (hh : hasS (l.take k) t = false) (h : k < l.length) (h1 : (decide (l[k].f ≤ t) && decide (t ≤ l[k].t)) = false) : hasS (l.take (k + 1)) t = false := by
  unfold hasS at *
  rw [take_snoc' h, List.any_append, hh]
  simp only [List.any_cons, List.any_nil, h1, Bool.or_false, Bool.or_self]

theorem same_end {xs ys : List Sp} {k : Nat} (hl : xs.length = ys.length) (h : xs.take k = ys.take k) (hk : ¬ k < xs.length) : decide (xs = ys) = true := by
  rw [List.take_of_length_le (by omega), List.take_of_length_le (by omega)] at h
  simp [h]
theorem same_step {xs ys : List Sp} {k : Nat} (h : xs.take k = ys.take k) (h1 : k < xs.length) (h2 : k < ys.length) (he : xs[k] = ys[k]) : xs.take (k + 1) = ys.take (k + 1) := by
  rw [take_snoc' h1, take_snoc' h2, h, he]
theorem same_no {xs ys : List Sp} {k : Nat} (h1 : k < xs.length) (h2 : k < ys.length) (he : ¬ xs[k] = ys[k]) : decide (xs = ys) = false := by
  rw [decide_eq_false_iff_not]; intro h; subst h; exact he rfl
theorem same_len {xs ys : List Sp} (h : (((xs.length : Nat) : Int) != ((ys.length : Nat) : Int)) = true) : decide (xs = ys) = false := by
  rw [decide_eq_false_iff_not]; intro hh; subst hh; simp at h

end Go.Proofs.Ytbkekpfancbemaa
