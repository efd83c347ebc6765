/- Laws of no one program: a world laid over another one, slices that read as lists of records, arguments opened. -/
import Derived.WalkKit
import Derived.WalkSpells
import Derived.WalkLawsBesides
import Derived.Deep.QuietTactic
import Derived.BigQuiet
import Derived.Deep.Slices
import Derived.ProofKit
import Derived.OpenShut
import Derived.ChangeOld
import Derived.Below
import Derived.StillTail
namespace Go.Proofs.YtneeikjiabpjhaaGreatDoor
set_option linter.unusedVariables false
set_option linter.unusedSimpArgs false
open Go.RowKit

/-! ### A world over another one: what was there stays, new blocks stand behind it -/

def over (w e : World) : World := { heap := w.heap ++ e.heap, tape := w.tape, drawn := e.drawn, os := w.os, output := w.output }

@[go_sem, simp] theorem size_over (w e : World) : (over w e).heap.size = w.heap.size + e.heap.size := by simp [over]
@[go_sem, simp] theorem tape_over (w e : World) : (over w e).tape = w.tape := rfl
theorem heap_over (w e : World) (k : Nat) (h : k < w.heap.size) : (over w e).heap[k]? = w.heap[k]? := by
  show (w.heap ++ e.heap)[k]? = _
  rw [Array.getElem?_append_left h]
theorem below_over (w e : World) : Below w.heap.size w (over w e) := ⟨rfl, rfl, rfl, by simp, fun k hk => heap_over w e k hk⟩
theorem over_of {w w' : World} (h : Below w.heap.size w w') : ∃ e, w' = over w e := by
  refine ⟨{ w' with heap := w'.heap.extract w.heap.size w'.heap.size }, ?_⟩
  obtain ⟨h1, h2, h3, h4, h5⟩ := h
  cases w' with
  | mk heap tape drawn os output =>
    simp only at h1 h2 h3 h4 h5
    subst h1 h2 h3
    simp only [over, World.mk.injEq, and_true]
    apply Array.ext_getElem?
    intro i
    rcases Nat.lt_or_ge i w.heap.size with hi | hi
    · rw [Array.getElem?_append_left hi]; exact h5 i hi
    · rw [Array.getElem?_append_right hi, Array.getElem?_extract]
      simp only [Nat.min_self]
      rcases Nat.lt_or_ge i heap.size with hj | hj
      · rw [if_pos (by omega)]
        congr 1
        omega
      · rw [if_neg (by omega), Array.getElem?_eq_none hj]
@[go_sem] theorem cell_over (w e : World) (n i : Nat) (h : n < w.heap.size) : (over w e).cell? ⟨n, i, none⟩ = w.cell? ⟨n, i, none⟩ :=
  World.cell?_of_block (heap_over w e n h)
@[go_sem] theorem frozen_over (w e : World) (n i : Nat) (h : n < w.heap.size) : (over w e).frozen? ⟨n, i, none⟩ = w.frozen? ⟨n, i, none⟩ :=
  World.frozen?_of_block (heap_over w e n h)
@[go_sem] theorem lt_add_deep (a b c : Nat) (h : a < b) : a < b + c := Nat.lt_of_lt_of_le h (Nat.le_add_right _ _)
@[go_sem] theorem lt_add2 (a b c d : Nat) (x : a < b) : a < b + c + d := by omega
@[go_sem] theorem lt_add3 (a b c d e : Nat) (x : a < b) : a < b + c + d + e := by omega
@[go_sem] theorem lt_add4 (a b c d e f : Nat) (x : a < b) : a < b + c + d + e + f := by omega
@[go_sem] theorem lt_add5 (a b c d e f g : Nat) (x : a < b) : a < b + c + d + e + f + g := by omega
@[go_sem] theorem lt_add6 (a b c d e f g h : Nat) (x : a < b) : a < b + c + d + e + f + g + h := by omega
@[go_sem] theorem lt_add7 (a b c d e f g h i : Nat) (x : a < b) : a < b + c + d + e + f + g + h + i := by omega
@[go_sem] theorem lt_add8 (a b c d e f g h i j : Nat) (x : a < b) : a < b + c + d + e + f + g + h + i + j := by omega
@[go_sem] theorem lt_add9 (a b c d e f g h i j k : Nat) (x : a < b) : a < b + c + d + e + f + g + h + i + j + k := by omega
@[go_sem] theorem lt_add10 (a b c d e f g h i j k l : Nat) (x : a < b) : a < b + c + d + e + f + g + h + i + j + k + l := by omega
@[go_sem] theorem setCell_over (w e : World) (n i : Nat) (v : Value) (h : n < w.heap.size) : (over w e).setCell ⟨n, i, none⟩ v = over (w.setCell ⟨n, i, none⟩ v) e := by
  simp only [over, World.setCell, World.mk.injEq, and_true]
  apply Array.ext_getElem?
  intro j
  simp only [Array.getElem?_modify, Array.getElem?_append, Array.size_modify]
  by_cases hj : j < w.heap.size
  · simp [hj]
  · simp [hj]
    omega
theorem over_drew (w e : World) : over w.drew e = over w e := rfl
theorem over_alloc (w e : World) (o : Obj) : (over w e).alloc o = over w (e.alloc o) := by
  have h : (w.heap ++ e.heap).push o = w.heap ++ e.heap.push o := by apply Array.ext'; simp
  show ({ heap := (w.heap ++ e.heap).push o, tape := w.tape, drawn := e.drawn, os := w.os, output := w.output } : World) = { heap := w.heap ++ e.heap.push o, tape := w.tape, drawn := e.drawn, os := w.os, output := w.output }
  rw [h]
theorem over_over (w e e' : World) : over (over w e) e' = over w (over e e') := by
  simp [over, Array.append_assoc]
theorem over_self (w : World) : ∃ e, w = over w e := over_of (Below.refl _ _)
theorem over_trans {w a b : World} (h : ∃ e, a = over w e) (k : ∃ e, b = over a e) : ∃ e, b = over w e := by
  obtain ⟨e, rfl⟩ := h
  obtain ⟨e', rfl⟩ := k
  exact ⟨_, over_over w e e'⟩
theorem ex_over {w e : World} : ∃ e', over w e = over w e' := ⟨_, rfl⟩
theorem ex_alloc {w a : World} (h : ∃ e, a = over w e) (o : Obj) : ∃ e, a.alloc o = over w e := by
  obtain ⟨e, rfl⟩ := h; exact ⟨_, over_alloc w e o⟩
theorem ex_drew {w a : World} (h : ∃ e, a = over w e) : ∃ e, a.drew = over w e := by
  obtain ⟨e, rfl⟩ := h; exact ⟨e.drew, rfl⟩
theorem ex_undrew {w a : World} (h : ∃ e, a = over w e) : ∃ e, a = over w.drew e := h
theorem ex_into {w a : World} (h : ∃ e, a = over w e) (e : World) : ∃ e', over a e = over w e' := over_trans h ⟨e, rfl⟩
theorem ex_setCell {w a : World} (h : ∃ e, a = over w e) {p : Addr} (hp : w.heap.size ≤ p.block) (v : Value) : ∃ e, a.setCell p v = over w e := by
  obtain ⟨e, rfl⟩ := h
  exact over_of ((below_over w e).setCell hp v)

def Ov (w w' : World) : Prop := ∃ e, w' = over w e

def Ret (w : World) (v : Value) (en : Ending) (w' : World) : Prop := (∃ e, w' = over w e) ∧ en = .returned v
def Gives (w : World) (p : Value → World → Prop) (en : Ending) (w' : World) : Prop := (∃ e, w' = over w e) ∧ ∃ v, en = .returned v ∧ p v w'

theorem wp_region_over {P : Program} {id : Nat} {Q : Exit → Act → World → Prop} {a : Act} {w : World} {l : List Oper} (hm : P.follows .mixedOrders = true) (hB : Region.lexB .any l.toArray = true)
    (h : wpQuiet P l.toArray (fun w' => ∃ e, w' = over w e) (fun a' => ∀ w', (∃ e, w' = over w e) → Q .normal a' w') l a) : (Code.region id l.toArray true).wp P Q a w :=
  wp_region_quiet (C := fun w' => ∃ e, w' = over w e) hm hB (ex_drew (over_self w)) (by simpa using h)

theorem quiet_over {P : Program} {f : FuncId} {args : Array Value} {w e : World} {v : Value}
    (h : Calls P f args (over w e) (Ret (over w e) v)) : Calls P f args (over w e) fun en w'' => en = .returned v ∧ ∃ m, w'' = over w m :=
  h.mono fun _ _ ⟨⟨x, h1⟩, h2⟩ => ⟨h2, by rw [h1]; exact ⟨_, over_over _ _ _⟩⟩

theorem hid {p : Prop} (h : p) : Hid p := h

/-! ### Values -/

theorem ret_int {k : IntKind} {a b : Int} (h : a = b) : Ending.returned (.int k a) = .returned (.int k b) := by rw [h]
theorem ret_bool {a b : Bool} (h : a = b) : Ending.returned (.bool a) = .returned (.bool b) := by rw [h]

theorem run_eql_slice_nil0 {P : Program} {t e : TypeId} (h : P.underlying t = some (.slice e)) (w : World) (a : Option Addr) (n c : Nat) :
    (binOp .eql t (.slice a n c) (.slice none 0 0)).run P w = .ok (.bool a.isNone) w := Lib.run_eql_slice_nil w t e a n c 0 0 h
def lenOf : Value → Nat
  | .slice _ n _ => n
  | _ => 0

/-! ### Slices as lists of records -/

structure Sl {α : Type} (sz : Nat) (cells : α → List Value) (w : World) (a : Option Addr) (cap : Nat) (xs : List α) : Prop where
  le : xs.length ≤ cap
  max : cap ≤ maxLen
  nul : a = none → cap = 0
  rec_ : ∀ i x, xs[i]? = some x → ∃ b off, a = some ⟨b, off, none⟩ ∧ b < w.heap.size ∧ ∀ j u, (cells x)[j]? = some u → w.cell? ⟨b, off + i * sz + j, none⟩ = some u

theorem Sl.nil {α : Type} {sz : Nat} {cells : α → List Value} (w : World) : Sl sz cells w none 0 ([] : List α) := ⟨Nat.le_refl _, Nat.zero_le _, fun _ => rfl, by simp⟩

theorem Sl.over {α : Type} {sz : Nat} {cells : α → List Value} {w : World} {a : Option Addr} {cap : Nat} {xs : List α} (h : Sl sz cells w a cap xs) (e : World) : Sl sz cells (over w e) a cap xs :=
  ⟨h.le, h.max, h.nul, fun i x hx => by
    obtain ⟨b, off, rfl, hb, hc⟩ := h.rec_ i x hx
    exact ⟨b, off, rfl, by simp; omega, fun j u hu => by rw [cell_over _ _ _ _ hb]; exact hc j u hu⟩⟩

theorem Sl.below {α : Type} {sz : Nat} {cells : α → List Value} {w w' : World} {a : Option Addr} {cap : Nat} {xs : List α} (h : Sl sz cells w a cap xs) (hb : Below w.heap.size w w') : Sl sz cells w' a cap xs := by
  obtain ⟨e, rfl⟩ := over_of hb
  exact h.over e

def flat {α : Type} (cells : α → List Value) (xs : List α) : List Value := xs.flatMap cells

theorem flat_length {α : Type} {cells : α → List Value} {sz : Nat} (hc : ∀ x, (cells x).length = sz) (xs : List α) : (flat cells xs).length = xs.length * sz := by
  induction xs with
  | nil => simp [flat]
  | cons x xs ih => simp only [flat, List.flatMap_cons, List.length_append, hc, List.length_cons] at *; rw [ih, Nat.add_mul]; omega

theorem flat_at {α : Type} {cells : α → List Value} {sz : Nat} (hc : ∀ x, (cells x).length = sz) : ∀ (xs : List α) (i : Nat) (x : α), xs[i]? = some x → ∀ j u, (cells x)[j]? = some u → (flat cells xs)[i * sz + j]? = some u
  | [], i, x, hx, _, _, _ => by simp at hx
  | y :: ys, 0, x, hx, j, u, hu => by
    simp at hx; subst hx
    have hj : j < (cells y).length := by
      rcases Nat.lt_or_ge j (cells y).length with h | h
      · exact h
      · rw [List.getElem?_eq_none h] at hu; cases hu
    simp only [flat, List.flatMap_cons, Nat.zero_mul, Nat.zero_add]
    rw [List.getElem?_append_left hj]; exact hu
  | y :: ys, i + 1, x, hx, j, u, hu => by
    have := flat_at hc ys i x (by simpa using hx) j u hu
    simp only [flat, List.flatMap_cons] at *
    rw [List.getElem?_append_right (by rw [hc, Nat.add_mul]; omega), hc, Nat.add_mul]
    rw [show i * sz + 1 * sz + j - sz = i * sz + j by omega]
    exact this

theorem flat_append {α : Type} (cells : α → List Value) (xs ys : List α) : flat cells (xs ++ ys) = flat cells xs ++ flat cells ys := by simp [flat]

def Own {α : Type} (base : Nat) (e : TypeId) (sz : Nat) (cells : α → List Value) (w : World) (v : Value) (xs : List α) : Prop := w.ownsRow base e sz v xs.length (flat cells xs)

theorem Own.slice {α : Type} {base : Nat} {e : TypeId} {sz : Nat} {cells : α → List Value} {w : World} {v : Value} {xs : List α} (hc : ∀ x, (cells x).length = sz) (h : Own base e sz cells w v xs) :
    ∃ a cap, v = .slice a xs.length cap ∧ Sl sz cells w a cap xs := by
  obtain ⟨h1, h2⟩ := h
  rcases h2 with ⟨rfl, h0⟩ | ⟨g, cap, cur, rfl, hb, hg, hnc, hcm, hcs, htake⟩
  · have : xs = [] := List.eq_nil_of_length_eq_zero h0
    subst this
    exact ⟨none, 0, rfl, Sl.nil w⟩
  · refine ⟨some ⟨g, 0, none⟩, cap, rfl, hnc, hcm, (fun h => nomatch h), fun i x hx => ⟨g, 0, rfl, (Array.getElem?_eq_some_iff.1 hg).1, fun j u hu => ?_⟩⟩
    have hf := flat_at hc xs i x hx j u hu
    rw [← htake, List.getElem?_take] at hf
    rw [Nat.zero_add, cell_of_row w g _ cur e (0, 0) hg]
    split at hf
    · simpa using hf
    · cases hf

theorem Own.nil {α : Type} {base : Nat} {e : TypeId} {sz : Nat} {cells : α → List Value} (w : World) : Own base e sz cells w (.slice none 0 0) ([] : List α) := World.ownsRow_nil w base e sz

theorem Own.made {α : Type} {e : TypeId} {sz : Nat} {cells : α → List Value} (w : World) : Own w.heap.size e sz cells (w.alloc (.cells #[] e)) (.slice (some ⟨w.heap.size, 0, none⟩) 0 0) ([] : List α) := by
  have := World.ownsRow_made (base := w.heap.size) (e := e) (size := sz) w #[] 0 (Nat.le_refl _) (by unfold maxLen; omega) (by simp)
  exact this

theorem Own.mono {α : Type} {base base' : Nat} {e : TypeId} {sz : Nat} {cells : α → List Value} {w : World} {v : Value} {xs : List α} (h : Own base e sz cells w v xs) (hb : base' ≤ base) : Own base' e sz cells w v xs := by
  obtain ⟨h1, h2⟩ := h
  refine ⟨h1, ?_⟩
  rcases h2 with h2 | ⟨g, cap, cur, hv, hg, r⟩
  · exact .inl h2
  · exact .inr ⟨g, cap, cur, hv, Nat.le_trans hb hg, r⟩

theorem Own.over {α : Type} {base : Nat} {e : TypeId} {sz : Nat} {cells : α → List Value} {w : World} {v : Value} {xs : List α} (h : Own base e sz cells w v xs) (x : World) : Own base e sz cells (over w x) v xs :=
  World.ownsRow.kept h ⟨rfl, rfl, rfl, by simp, fun k hk _ => heap_over w x k hk⟩ (by cases hv : v.ownBlock <;> simp) (row := none)

theorem Own.alloc {α : Type} {base : Nat} {e : TypeId} {sz : Nat} {cells : α → List Value} {w : World} {v : Value} {xs : List α} (h : Own base e sz cells w v xs) (o : Obj) : Own base e sz cells (w.alloc o) v xs := World.ownsRow.alloc h o

theorem Own.drew {α : Type} {base : Nat} {e : TypeId} {sz : Nat} {cells : α → List Value} {w : World} {v : Value} {xs : List α} (h : Own base e sz cells w v xs) : Own base e sz cells w.drew v xs := h

theorem Own.setCell {α : Type} {base : Nat} {e : TypeId} {sz : Nat} {cells : α → List Value} {w : World} {v : Value} {xs : List α} (h : Own base e sz cells w v xs) {p : Addr} (hp : p.block < base) (u : Value) : Own base e sz cells (w.setCell p u) v xs :=
  ownsRow_setCell_below h hp u

theorem Own.open_ {α : Type} {base : Nat} {e : TypeId} {sz : Nat} {cells : α → List Value} {w : World} {v : Value} {xs : List α} (hc : ∀ x, (cells x).length = sz) (h : Own base e sz cells w v xs) (h0 : 0 < xs.length) :
    ∃ g cap, v = .slice (some ⟨g, 0, none⟩) xs.length cap ∧ base ≤ g ∧ g < w.heap.size ∧ (∀ i x, xs[i]? = some x → ∀ j u, (cells x)[j]? = some u → w.cell? ⟨g, i * sz + j, none⟩ = some u) ∧ (∀ j, w.frozen? ⟨g, j, none⟩ = false) := by
  obtain ⟨h1, h2⟩ := h
  rcases h2 with ⟨rfl, h0'⟩ | ⟨g, cap, cur, rfl, hb, hg, hnc, hcm, hcs, htake⟩
  · omega
  · refine ⟨g, cap, rfl, hb, (Array.getElem?_eq_some_iff.1 hg).1, fun i x hx j u hu => ?_, fun j => frozen_of_row w g j cur e hg⟩
    have hf := flat_at hc xs i x hx j u hu
    rw [← htake, List.getElem?_take] at hf
    rw [cell_of_row w g _ cur e (0, 0) hg]
    split at hf
    · simpa using hf
    · cases hf

theorem flat_set {α : Type} {cells : α → List Value} {sz : Nat} (hc : ∀ x, (cells x).length = sz) : ∀ (xs : List α) (i : Nat) (y : α) (j : Nat) (u : Value) (hi : i < xs.length), cells y = (cells xs[i]).set j u → j < sz → flat cells (xs.set i y) = (flat cells xs).set (i * sz + j) u
  | [], i, _, _, _, hi, _, _ => by simp at hi
  | x :: xs, 0, y, j, u, _, h, hj => by
    simp only [List.getElem_cons_zero] at h
    simp only [flat, List.set_cons_zero, List.flatMap_cons, Nat.zero_mul, Nat.zero_add, h]
    rw [List.set_append_left _ _ (by rw [hc]; exact hj)]
  | x :: xs, i + 1, y, j, u, hi, h, hj => by
    have := flat_set hc xs i y j u (by simpa using hi) (by simpa using h) hj
    simp only [flat, List.set_cons_succ, List.flatMap_cons] at *
    rw [this, List.set_append_right _ _ (by rw [hc, Nat.add_mul]; omega), hc]
    congr 2
    rw [Nat.add_mul]; omega

theorem Own.set_ {α : Type} {base : Nat} {e : TypeId} {sz : Nat} {cells : α → List Value} {w : World} {g cap n : Nat} {xs : List α} (hc : ∀ x, (cells x).length = sz) (h : Own base e sz cells w (.slice (some ⟨g, 0, none⟩) n cap) xs)
    {i : Nat} (hi : i < xs.length) (y : α) (j : Nat) (u : Value) (hy : cells y = (cells xs[i]).set j u) (hj : j < sz) : Own base e sz cells (w.setCell ⟨g, i * sz + j, none⟩ u) (.slice (some ⟨g, 0, none⟩) n cap) (xs.set i y) := by
  unfold Own at *
  have hn : n = xs.length := by
    rcases h.2 with ⟨h', _⟩ | ⟨g', c', cur, h', _⟩
    · simp at h'
    · simp only [Value.slice.injEq] at h'; exact h'.2.1
  subst hn
  rw [List.length_set, flat_set hc xs i y j u hi hy hj]
  exact (World.ownsRow.stored h _ u).1

theorem Own.swap {α : Type} {base : Nat} {e : TypeId} {sz : Nat} {cells : α → List Value} {w x : World} {o : Obj} {v : Value} {xs : List α} (h : Own base e sz cells (Go.Proofs.YtneeikjiabpjhaaGreatDoor.over (w.alloc o) x) v xs) (hb : w.heap.size < base) (o' : Obj) :
    Own base e sz cells (Go.Proofs.YtneeikjiabpjhaaGreatDoor.over (w.alloc o') x) v xs := by
  obtain ⟨h1, h2⟩ := h
  refine ⟨h1, ?_⟩
  rcases h2 with h2 | ⟨g, cap, cur, hv, hg, hh, r⟩
  · exact .inl h2
  · refine .inr ⟨g, cap, cur, hv, hg, ?_, r⟩
    rw [← hh]
    show ((w.heap.push o') ++ x.heap)[g]? = ((w.heap.push o) ++ x.heap)[g]?
    rw [Array.getElem?_append_right (by simp; omega), Array.getElem?_append_right (by simp; omega)]
    simp only [Array.size_push]

theorem over_of_grown {w w' : World} {base : Nat} {row : Option Nat} (hg : w.grownBy w' row) (hr : ∀ k, row = some k → base ≤ k) {w0 : World} (h0 : w0.heap.size ≤ base) (hw : ∃ e, w = over w0 e) : ∃ e, w' = over w0 e := by
  obtain ⟨e, rfl⟩ := hw
  exact over_of ((below_over w0 e).grown hg (by simp) (fun k hk => Nat.le_trans h0 (hr k hk)))

theorem Own.row {α : Type} {base : Nat} {e : TypeId} {sz : Nat} {cells : α → List Value} {w : World} {v : Value} {xs : List α} (h : Own base e sz cells w v xs) : ∀ k, v.ownBlock = some k → base ≤ k :=
  fun k hk => (World.ownsRow.lt h k hk).1

theorem len_max {α : Type} {sz : Nat} {cells : α → List Value} {w : World} {a : Option Addr} {cap : Nat} {xs : List α} (hs : Sl sz cells w a cap xs) : xs.length ≤ 9223372036854775807 := by
  have := hs.le; have := hs.max; unfold maxLen at *; omega
theorem Sl.alloc {α : Type} {sz : Nat} {cells : α → List Value} {w : World} {a : Option Addr} {cap : Nat} {xs : List α} (h : Sl sz cells w a cap xs) (o : Obj) : Sl sz cells (w.alloc o) a cap xs :=
  h.below ((Below.refl _ _).alloc (Nat.le_refl _) o)
theorem Sl.drew {α : Type} {sz : Nat} {cells : α → List Value} {w : World} {a : Option Addr} {cap : Nat} {xs : List α} (h : Sl sz cells w a cap xs) : Sl sz cells w.drew a cap xs := ⟨h.le, h.max, h.nul, h.rec_⟩

/-! ### A type of slices, its elements -/

structure ElemOf (P : Program) (t e : TypeId) (sz bytes : Nat) : Prop where
  ht : P.underlying t = some (.slice e)
  info : ∃ i z, P.info? e = some i ∧ i.zero = some z ∧ i.size = sz ∧ i.bytes = bytes ∧ z.cells.size = sz
  pos : 0 < sz

theorem elemOf {P : Program} {t e : TypeId} {sz bytes : Nat} {z : Value} (ht : P.underlying t = some (.slice e)) (h : (P.info? e).map (fun i => (i.zero, i.size, i.bytes)) = some (some z, sz, bytes)) (hz : z.cells.size = sz) (pos : 0 < sz) : ElemOf P t e sz bytes := by
  obtain ⟨i, h1, h2, h3, h4⟩ := info_parts h
  exact ⟨ht, ⟨i, z, h1, h2, h3, h4, hz⟩, pos⟩

section
variable {P : Program} {α : Type} {sz bytes : Nat} {cells : α → List Value} {t e : TypeId}

theorem append_run (he : ElemOf P t e sz bytes) {w w1 B : World} {base : Nat} {v : Value} {ys xs : List α} (hc : ∀ y, (cells y).length = sz) (h1c : ∀ y, ∀ u ∈ cells y, u.oneCell' = true)
    (hown : Own base e sz cells w1 v ys) (hw1 : Ov w1 w) (hB : Ov B w) (hbB : B.heap.size ≤ base) (hbw : base ≤ w1.heap.size) {a : Option Addr} {cap : Nat} (hs : Sl sz cells w a cap xs)
    (hlen : ys.length + xs.length ≤ maxLen) (hby : (ys.length + xs.length) * bytes ≤ 140737488355328) (ty : TypeId) :
    ∃ v' x, (Builtin.append_ #[t, t] ty #[v, .slice a xs.length cap]).run P w = .ok v' (over B x) ∧ Own base e sz cells (over B x) v' (ys ++ xs) ∧
      (∀ b i, w1.heap.size ≤ b → b < w.heap.size → (over B x).cell? ⟨b, i, none⟩ = w.cell? ⟨b, i, none⟩) ∧ (∀ b i, w1.heap.size ≤ b → b < w.heap.size → (over B x).frozen? ⟨b, i, none⟩ = w.frozen? ⟨b, i, none⟩) := by
  obtain ⟨i, z, g1, g2, g3, g4, g5⟩ := he.info
  have hownw : Own base e sz cells w v ys := by
    obtain ⟨x, rfl⟩ := hw1
    exact hown.over x
  obtain ⟨xB, hxB⟩ := hB
  have hfl : (flat cells xs).length = xs.length * sz := flat_length hc xs
  have h1 : ∀ u ∈ flat cells xs, u.oneCell' = true := fun u hu => by
    obtain ⟨y, _, hy⟩ := List.mem_flatMap.1 hu
    exact h1c y u hy
  have hbase : base ≤ w.heap.size := by
    obtain ⟨x, rfl⟩ := hw1
    simp; omega
  by_cases hn : a = none
  · have hx0 : xs = [] := by
      cases xs with
      | nil => rfl
      | cons y l => obtain ⟨b, off, h, _⟩ := hs.rec_ 0 y rfl; rw [hn] at h; cases h
    subst hx0
    have hc0 := hs.nul hn
    subst hn hc0
    have hr := run_append_owned_none (P := P) w base t ty e i sz he.ht g1 v ys.length (flat cells ys) hownw
    refine ⟨v, xB, by rw [← hxB]; exact hr, ?_, fun b i _ _ => by rw [← hxB], fun b i _ _ => by rw [← hxB]⟩
    rw [← hxB, List.append_nil]; exact hownw
  · obtain ⟨ad, rfl⟩ : ∃ ad, a = some ad := by cases a with | none => exact absurd rfl hn | some ad => exact ⟨ad, rfl⟩
    have hnews : ∀ j u, (flat cells xs)[j]? = some u → w.cell? (ad.add j) = some u := by
      intro j u hu
      have hj : j < xs.length * sz := by rw [← hfl]; exact (List.getElem?_eq_some_iff.1 hu).1
      have hq : j / sz < xs.length := Nat.div_lt_of_lt_mul (by rw [Nat.mul_comm]; exact hj)
      obtain ⟨b, off, h, hb, hcell⟩ := hs.rec_ (j / sz) xs[j / sz] (List.getElem?_eq_getElem hq)
      injection h with h
      have hm : j % sz < sz := Nat.mod_lt _ he.pos
      have hm2 : j % sz < (cells (xs[j / sz]'hq)).length := by rw [hc (xs[j / sz]'hq)]; exact hm
      obtain ⟨c, hu'⟩ : ∃ c, (cells (xs[j / sz]'hq))[j % sz]? = some c := ⟨_, List.getElem?_eq_getElem hm2⟩
      have hf := flat_at hc xs (j / sz) xs[j / sz] (List.getElem?_eq_getElem hq) _ _ hu'
      have hj2 : j / sz * sz + j % sz = j := by rw [Nat.mul_comm]; exact Nat.div_add_mod j sz
      rw [hj2, hu] at hf
      have := hcell _ _ hu'
      rw [← hf, Nat.add_assoc, hj2] at this
      rw [h, Go.WideShapes.add_plain]; exact this
    obtain ⟨v', w', hr, ho, hg, _⟩ := run_append_own (P := P) w base t ty e i z sz bytes he.ht g1 g2 g3 g4 g5 he.pos v ys.length (flat cells ys) hownw ad xs.length cap (flat cells xs) hfl hnews h1 hlen hby hbase
    obtain ⟨x, hx⟩ := over_of_grown hg (fun k hk => hownw.row k hk) hbB ⟨xB, hxB⟩
    subst hx
    have hkeep : ∀ b, w1.heap.size ≤ b → b < w.heap.size → (over B x).heap[b]? = w.heap[b]? := by
      intro b h1 h2
      refine hg.block b h2 fun h => ?_
      have := (World.ownsRow.lt hown b h.symm).2
      omega
    refine ⟨v', x, hr, ?_, fun b i h1 h2 => World.cell?_of_block (w := w) (hkeep b h1 h2), fun b i h1 h2 => World.frozen?_of_block (w := w) (hkeep b h1 h2)⟩
    unfold Own
    rw [flat_append, List.length_append]
    exact ho

theorem wpList_append {ops : Array Oper} {rest : List Oper} {o : Oper} {a : Act} {Q : Exit → Act → World → Prop} (he : ElemOf P t e sz bytes) {w w1 B : World} {base : Nat} {v : Value} {ys xs : List α}
    (hc : ∀ y, (cells y).length = sz) (h1c : ∀ y, ∀ u ∈ cells y, u.oneCell' = true) (hgd : o.guard = none) (s x : Operand)
    (ho : o.op = .call { callee := .builtin .append, args := #[s, x], argTypes := #[t, t] })
    (hown : Own base e sz cells w1 v ys) (hsv : a.eval s = v) {ad : Option Addr} {cap : Nat} (hxv : a.eval x = .slice ad xs.length cap)
    (hw1 : Ov w1 w) (hB : Ov B w) (hbB : B.heap.size ≤ base) (hbw : base ≤ w1.heap.size) (hs : Sl sz cells w ad cap xs)
    (hlen : ys.length + xs.length ≤ maxLen) (hby : (ys.length + xs.length) * bytes ≤ 140737488355328)
    (h : ∀ v' x, Own base e sz cells (over B x) v' (ys ++ xs) → (∀ b i, w1.heap.size ≤ b → b < w.heap.size → (over B x).cell? ⟨b, i, none⟩ = w.cell? ⟨b, i, none⟩) →
      (∀ b i, w1.heap.size ≤ b → b < w.heap.size → (over B x).frozen? ⟨b, i, none⟩ = w.frozen? ⟨b, i, none⟩) → wpList P ops Q rest (a.put o.dst v') (over B x)) :
    wpList P ops Q (o :: rest) a w := by
  obtain ⟨v', x', hr, h1, h2, h3⟩ := append_run he hc h1c hown hw1 hB hbB hbw hs hlen hby o.type
  refine wpList_plain hgd fun K hK => ?_
  unfold Oper.wp execOp
  simp only [ho, resolve, invoke, builtin, Sem.run_bind, Sem.run_pure, Result.andThen_ok, List.map_toArray, List.map_cons, List.map_nil, hsv, hxv, hr]
  exact hK _ _ (h v' x' h1 h2 h3)

theorem Sl.one {w : World} {n : Nat} {y : α} (hn : n < w.heap.size) (hcell : ∀ j u, (cells y)[j]? = some u → w.cell? ⟨n, j, none⟩ = some u) : Sl sz cells w (some ⟨n, 0, none⟩) 1 [y] :=
  ⟨Nat.le_refl _, by unfold maxLen; omega, (fun h => nomatch h), fun i x hx => by
    have hi : i = 0 := by
      have := (List.getElem?_eq_some_iff.1 hx).1
      simp at this; exact this
    subst hi
    simp at hx
    subst hx
    exact ⟨n, 0, rfl, hn, fun j u hu => by simpa using hcell j u hu⟩⟩

theorem Sl.one_new {w : World} {y : α} {n : Nat} (hn : n = w.heap.size) : Sl sz cells (w.alloc (.cells (cells y).toArray e)) (some ⟨n, 0, none⟩) 1 [y] := by
  subst hn
  exact Sl.one (by simp) fun j u hu => by rw [World.cell?_alloc_new]; simpa using hu
theorem Sl.lit_new {w : World} {xs : List α} {n : Nat} (hc : ∀ x, (cells x).length = sz) (hn : n = w.heap.size) (hm : xs.length ≤ maxLen) : Sl sz cells (w.alloc (.cells (flat cells xs).toArray e)) (some ⟨n, 0, none⟩) xs.length xs := by
  subst hn
  have h := World.ownsRow_lit (base := 0) (e := e) (size := sz) w (flat cells xs).toArray xs.length (Nat.zero_le _) hm (by simp [flat_length hc])
  have h' : Own 0 e sz cells (w.alloc (.cells (flat cells xs).toArray e)) (.slice (some ⟨w.heap.size, 0, none⟩) xs.length xs.length) xs := by simpa [Own] using h
  obtain ⟨a, cap, hv, hs⟩ := Own.slice hc h'
  simp only [Value.slice.injEq] at hv
  obtain ⟨rfl, _, rfl⟩ := hv
  exact hs
end

theorem Sl.lit_as {α : Type} {sz : Nat} {cells : α → List Value} {e : TypeId} {w : World} {xs : List α} {n k : Nat} {cs : Array Value} (hc : ∀ x, (cells x).length = sz) (hcs : cs = (flat cells xs).toArray) (hk : k = xs.length) (hn : n = w.heap.size) (hm : xs.length ≤ maxLen) : Sl sz cells (w.alloc (.cells cs e)) (some ⟨n, 0, none⟩) k xs := by
  subst hcs hk
  exact Sl.lit_new hc hn hm

/-! ### Arguments: values of plain types, flat -/

def okLeaf : Option IntKind → Value → Prop
  | some k, v => ∃ n, v = .int k n ∧ (Lit.int k n).wf = true
  | none, v => ∃ b, v = .bool b

def okAll : List (Option IntKind) → List Value → Prop
  | [], [] => True
  | k :: ks, v :: vs => okLeaf k v ∧ okAll ks vs
  | _, _ => False

def flatFs (g : TypeId → Option (List (Option IntKind))) (size : TypeId → Nat) : Nat → List Field → Option (List (Option IntKind))
  | _, [] => some []
  | off, f :: fs =>
    match g f.type, flatFs g size (off + size f.type) fs with
    | some l, some r => if f.offset = off ∧ size f.type = l.length then some (l ++ r) else none
    | _, _ => none

def flatT (P : Program) : Nat → TypeId → Option (List (Option IntKind))
  | 0, _ => none
  | d + 1, t =>
    match P.underlying t with
    | some (.int k) => some [some k]
    | some .bool => some [none]
    | some (.struct fs) =>
      match flatFs (flatT P d) P.cellsOf 0 fs.toList with
      | some l => if P.cellsOf t = l.length then some l else none
      | none => none
    | _ => none

section
variable {H : Type} {enc : TypeId × Value → H} {P : Program} {w : World} {base : Nat} {spare : Nat → Bool} {held : Bool}

end

attribute [irreducible] over

end Go.Proofs.YtneeikjiabpjhaaGreatDoor
