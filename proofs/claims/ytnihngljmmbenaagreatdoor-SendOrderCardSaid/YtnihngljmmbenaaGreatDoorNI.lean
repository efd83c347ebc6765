import Derived.WalkKit
import Derived.WalkSpells
import Derived.WalkLawsBesides
import Derived.Deep.QuietTactic
import Derived.BigQuiet
import Derived.Deep.Slices
import Derived.ProofKit
import Derived.OpenShut
import Derived.ChangeOld
import Derived.Below
import Derived.StillTail
import Derived.OneCell
import Derived.Maps.AppendAt
namespace Go.Proofs.YtnihngljmmbenaaGreatDoor
set_option linter.unusedVariables false
set_option linter.unusedSimpArgs false
section
open Go.RowKit

/-! ### A world over another one: what was there stays, new blocks stand behind it -/

def over (w e : World) : World := { heap := w.heap ++ e.heap, tape := w.tape, drawn := e.drawn, os := w.os, output := w.output }

@[go_sem, simp] theorem size_over (w e : World) : (over w e).heap.size = w.heap.size + e.heap.size := by simp [over]
@[go_sem, simp] theorem tape_over (w e : World) : (over w e).tape = w.tape := rfl
theorem heap_over (w e : World) (k : Nat) (h : k < w.heap.size) : (over w e).heap[k]? = w.heap[k]? := by
  show (w.heap ++ e.heap)[k]? = _
  rw [Array.getElem?_append_left h]
theorem below_over (w e : World) : Below w.heap.size w (over w e) := ⟨rfl, rfl, rfl, by simp, fun k hk => heap_over w e k hk⟩
theorem over_of {w w' : World} (h : Below w.heap.size w w') : ∃ e, w' = over w e := by
  refine ⟨{ w' with heap := w'.heap.extract w.heap.size w'.heap.size }, ?_⟩
  obtain ⟨h1, h2, h3, h4, h5⟩ := h
  cases w' with
  | mk heap tape drawn os output =>
    simp only at h1 h2 h3 h4 h5
    subst h1 h2 h3
    simp only [over, World.mk.injEq, and_true]
    apply Array.ext_getElem?
    intro i
    rcases Nat.lt_or_ge i w.heap.size with hi | hi
    · rw [Array.getElem?_append_left hi]; exact h5 i hi
    · rw [Array.getElem?_append_right hi, Array.getElem?_extract]
      simp only [Nat.min_self]
      rcases Nat.lt_or_ge i heap.size with hj | hj
      · rw [if_pos (by omega)]
        congr 1
        omega
      · rw [if_neg (by omega), Array.getElem?_eq_none hj]
@[go_sem] theorem cell_over (w e : World) (n i : Nat) (h : n < w.heap.size) : (over w e).cell? ⟨n, i, none⟩ = w.cell? ⟨n, i, none⟩ :=
  World.cell?_of_block (heap_over w e n h)
@[go_sem] theorem frozen_over (w e : World) (n i : Nat) (h : n < w.heap.size) : (over w e).frozen? ⟨n, i, none⟩ = w.frozen? ⟨n, i, none⟩ :=
  World.frozen?_of_block (heap_over w e n h)
@[go_sem] theorem lt_add_deep (a b c : Nat) (h : a < b) : a < b + c := Nat.lt_of_lt_of_le h (Nat.le_add_right _ _)
@[go_sem] theorem lt_add2 (a b c d : Nat) (x : a < b) : a < b + c + d := by omega
@[go_sem] theorem lt_add3 (a b c d e : Nat) (x : a < b) : a < b + c + d + e := by omega
@[go_sem] theorem lt_add4 (a b c d e f : Nat) (x : a < b) : a < b + c + d + e + f := by omega
@[go_sem] theorem lt_add5 (a b c d e f g : Nat) (x : a < b) : a < b + c + d + e + f + g := by omega
@[go_sem] theorem lt_add6 (a b c d e f g h : Nat) (x : a < b) : a < b + c + d + e + f + g + h := by omega
@[go_sem] theorem lt_add7 (a b c d e f g h i : Nat) (x : a < b) : a < b + c + d + e + f + g + h + i := by omega
@[go_sem] theorem lt_add8 (a b c d e f g h i j : Nat) (x : a < b) : a < b + c + d + e + f + g + h + i + j := by omega
@[go_sem] theorem lt_add9 (a b c d e f g h i j k : Nat) (x : a < b) : a < b + c + d + e + f + g + h + i + j + k := by omega
@[go_sem] theorem lt_add10 (a b c d e f g h i j k l : Nat) (x : a < b) : a < b + c + d + e + f + g + h + i + j + k + l := by omega
@[go_sem] theorem setCell_over (w e : World) (n i : Nat) (v : Value) (h : n < w.heap.size) : (over w e).setCell ⟨n, i, none⟩ v = over (w.setCell ⟨n, i, none⟩ v) e := by
  simp only [over, World.setCell, World.mk.injEq, and_true]
  apply Array.ext_getElem?
  intro j
  simp only [Array.getElem?_modify, Array.getElem?_append, Array.size_modify]
  by_cases hj : j < w.heap.size
  · simp [hj]
  · simp [hj]
    omega
theorem over_drew (w e : World) : over w.drew e = over w e := rfl
theorem over_alloc (w e : World) (o : Obj) : (over w e).alloc o = over w (e.alloc o) := by
  have h : (w.heap ++ e.heap).push o = w.heap ++ e.heap.push o := by apply Array.ext'; simp
  show ({ heap := (w.heap ++ e.heap).push o, tape := w.tape, drawn := e.drawn, os := w.os, output := w.output } : World) = { heap := w.heap ++ e.heap.push o, tape := w.tape, drawn := e.drawn, os := w.os, output := w.output }
  rw [h]
theorem over_over (w e e' : World) : over (over w e) e' = over w (over e e') := by
  simp [over, Array.append_assoc]
theorem over_self (w : World) : ∃ e, w = over w e := over_of (Below.refl _ _)
theorem over_trans {w a b : World} (h : ∃ e, a = over w e) (k : ∃ e, b = over a e) : ∃ e, b = over w e := by
  obtain ⟨e, rfl⟩ := h
  obtain ⟨e', rfl⟩ := k
  exact ⟨_, over_over w e e'⟩
theorem ex_over {w e : World} : ∃ e', over w e = over w e' := ⟨_, rfl⟩
theorem ex_alloc {w a : World} (h : ∃ e, a = over w e) (o : Obj) : ∃ e, a.alloc o = over w e := by
  obtain ⟨e, rfl⟩ := h; exact ⟨_, over_alloc w e o⟩
theorem ex_drew {w a : World} (h : ∃ e, a = over w e) : ∃ e, a.drew = over w e := by
  obtain ⟨e, rfl⟩ := h; exact ⟨e.drew, rfl⟩
theorem ex_undrew {w a : World} (h : ∃ e, a = over w e) : ∃ e, a = over w.drew e := h
theorem ex_into {w a : World} (h : ∃ e, a = over w e) (e : World) : ∃ e', over a e = over w e' := over_trans h ⟨e, rfl⟩
theorem ex_setCell {w a : World} (h : ∃ e, a = over w e) {p : Addr} (hp : w.heap.size ≤ p.block) (v : Value) : ∃ e, a.setCell p v = over w e := by
  obtain ⟨e, rfl⟩ := h
  exact over_of ((below_over w e).setCell hp v)

def Ov (w w' : World) : Prop := ∃ e, w' = over w e

def Ret (w : World) (v : Value) (en : Ending) (w' : World) : Prop := (∃ e, w' = over w e) ∧ en = .returned v
def Gives (w : World) (p : Value → World → Prop) (en : Ending) (w' : World) : Prop := (∃ e, w' = over w e) ∧ ∃ v, en = .returned v ∧ p v w'

theorem wp_region_over {P : Program} {id : Nat} {Q : Exit → Act → World → Prop} {a : Act} {w : World} {l : List Oper} (hm : P.follows .mixedOrders = true) (hB : Region.lexB .any l.toArray = true)
    (h : wpQuiet P l.toArray (fun w' => ∃ e, w' = over w e) (fun a' => ∀ w', (∃ e, w' = over w e) → Q .normal a' w') l a) : (Code.region id l.toArray true).wp P Q a w :=
  wp_region_quiet (C := fun w' => ∃ e, w' = over w e) hm hB (ex_drew (over_self w)) (by simpa using h)

theorem quiet_over {P : Program} {f : FuncId} {args : Array Value} {w e : World} {v : Value}
    (h : Calls P f args (over w e) (Ret (over w e) v)) : Calls P f args (over w e) fun en w'' => en = .returned v ∧ ∃ m, w'' = over w m :=
  h.mono fun _ _ ⟨⟨x, h1⟩, h2⟩ => ⟨h2, by rw [h1]; exact ⟨_, over_over _ _ _⟩⟩

theorem hid {p : Prop} (h : p) : Hid p := h

/-! ### Values -/

theorem ret_int {k : IntKind} {a b : Int} (h : a = b) : Ending.returned (.int k a) = .returned (.int k b) := by rw [h]
theorem ret_bool {a b : Bool} (h : a = b) : Ending.returned (.bool a) = .returned (.bool b) := by rw [h]

theorem run_eql_slice_nil0 {P : Program} {t e : TypeId} (h : P.underlying t = some (.slice e)) (w : World) (a : Option Addr) (n c : Nat) :
    (binOp .eql t (.slice a n c) (.slice none 0 0)).run P w = .ok (.bool a.isNone) w := Lib.run_eql_slice_nil w t e a n c 0 0 h
theorem u64_in {n : Int} (h : 0 ≤ n) (h2 : n < 9223372036854775808) : IntKind.u64.wrap n = n := by rw [IntKind.wrap_u64]; omega

def lenOf : Value → Nat
  | .slice _ n _ => n
  | _ => 0

/-! ### Slices as lists of records -/

structure Sl {α : Type} (sz : Nat) (cells : α → List Value) (w : World) (a : Option Addr) (cap : Nat) (xs : List α) : Prop where
  le : xs.length ≤ cap
  max : cap ≤ maxLen
  nul : a = none → cap = 0
  rec_ : ∀ i x, xs[i]? = some x → ∃ b off, a = some ⟨b, off, none⟩ ∧ b < w.heap.size ∧ ∀ j u, (cells x)[j]? = some u → w.cell? ⟨b, off + i * sz + j, none⟩ = some u

theorem Sl.nil {α : Type} {sz : Nat} {cells : α → List Value} (w : World) : Sl sz cells w none 0 ([] : List α) := ⟨Nat.le_refl _, Nat.zero_le _, fun _ => rfl, by simp⟩

theorem Sl.over {α : Type} {sz : Nat} {cells : α → List Value} {w : World} {a : Option Addr} {cap : Nat} {xs : List α} (h : Sl sz cells w a cap xs) (e : World) : Sl sz cells (over w e) a cap xs :=
  ⟨h.le, h.max, h.nul, fun i x hx => by
    obtain ⟨b, off, rfl, hb, hc⟩ := h.rec_ i x hx
    exact ⟨b, off, rfl, by simp; omega, fun j u hu => by rw [cell_over _ _ _ _ hb]; exact hc j u hu⟩⟩

theorem Sl.below {α : Type} {sz : Nat} {cells : α → List Value} {w w' : World} {a : Option Addr} {cap : Nat} {xs : List α} (h : Sl sz cells w a cap xs) (hb : Below w.heap.size w w') : Sl sz cells w' a cap xs := by
  obtain ⟨e, rfl⟩ := over_of hb
  exact h.over e

def flat {α : Type} (cells : α → List Value) (xs : List α) : List Value := xs.flatMap cells

theorem flat_length {α : Type} {cells : α → List Value} {sz : Nat} (hc : ∀ x, (cells x).length = sz) (xs : List α) : (flat cells xs).length = xs.length * sz := by
  induction xs with
  | nil => simp [flat]
  | cons x xs ih => simp only [flat, List.flatMap_cons, List.length_append, hc, List.length_cons] at *; rw [ih, Nat.add_mul]; omega

theorem flat_at {α : Type} {cells : α → List Value} {sz : Nat} (hc : ∀ x, (cells x).length = sz) : ∀ (xs : List α) (i : Nat) (x : α), xs[i]? = some x → ∀ j u, (cells x)[j]? = some u → (flat cells xs)[i * sz + j]? = some u
  | [], i, x, hx, _, _, _ => by simp at hx
  | y :: ys, 0, x, hx, j, u, hu => by
    simp at hx; subst hx
    have hj : j < (cells y).length := by
      rcases Nat.lt_or_ge j (cells y).length with h | h
      · exact h
      · rw [List.getElem?_eq_none h] at hu; cases hu
    simp only [flat, List.flatMap_cons, Nat.zero_mul, Nat.zero_add]
    rw [List.getElem?_append_left hj]; exact hu
  | y :: ys, i + 1, x, hx, j, u, hu => by
    have := flat_at hc ys i x (by simpa using hx) j u hu
    simp only [flat, List.flatMap_cons] at *
    rw [List.getElem?_append_right (by rw [hc, Nat.add_mul]; omega), hc, Nat.add_mul]
    rw [show i * sz + 1 * sz + j - sz = i * sz + j by omega]
    exact this

theorem flat_append {α : Type} (cells : α → List Value) (xs ys : List α) : flat cells (xs ++ ys) = flat cells xs ++ flat cells ys := by simp [flat]

def Own {α : Type} (base : Nat) (e : TypeId) (sz : Nat) (cells : α → List Value) (w : World) (v : Value) (xs : List α) : Prop := w.ownsRow base e sz v xs.length (flat cells xs)

theorem Own.slice {α : Type} {base : Nat} {e : TypeId} {sz : Nat} {cells : α → List Value} {w : World} {v : Value} {xs : List α} (hc : ∀ x, (cells x).length = sz) (h : Own base e sz cells w v xs) :
    ∃ a cap, v = .slice a xs.length cap ∧ Sl sz cells w a cap xs := by
  obtain ⟨h1, h2⟩ := h
  rcases h2 with ⟨rfl, h0⟩ | ⟨g, cap, cur, rfl, hb, hg, hnc, hcm, hcs, htake⟩
  · have : xs = [] := List.eq_nil_of_length_eq_zero h0
    subst this
    exact ⟨none, 0, rfl, Sl.nil w⟩
  · refine ⟨some ⟨g, 0, none⟩, cap, rfl, hnc, hcm, (fun h => nomatch h), fun i x hx => ⟨g, 0, rfl, (Array.getElem?_eq_some_iff.1 hg).1, fun j u hu => ?_⟩⟩
    have hf := flat_at hc xs i x hx j u hu
    rw [← htake, List.getElem?_take] at hf
    rw [Nat.zero_add, cell_of_row w g _ cur e (0, 0) hg]
    split at hf
    · simpa using hf
    · cases hf

theorem Own.nil {α : Type} {base : Nat} {e : TypeId} {sz : Nat} {cells : α → List Value} (w : World) : Own base e sz cells w (.slice none 0 0) ([] : List α) := World.ownsRow_nil w base e sz

theorem Own.made {α : Type} {e : TypeId} {sz : Nat} {cells : α → List Value} (w : World) : Own w.heap.size e sz cells (w.alloc (.cells #[] e)) (.slice (some ⟨w.heap.size, 0, none⟩) 0 0) ([] : List α) := by
  have := World.ownsRow_made (base := w.heap.size) (e := e) (size := sz) w #[] 0 (Nat.le_refl _) (by unfold maxLen; omega) (by simp)
  exact this

theorem Own.mono {α : Type} {base base' : Nat} {e : TypeId} {sz : Nat} {cells : α → List Value} {w : World} {v : Value} {xs : List α} (h : Own base e sz cells w v xs) (hb : base' ≤ base) : Own base' e sz cells w v xs := by
  obtain ⟨h1, h2⟩ := h
  refine ⟨h1, ?_⟩
  rcases h2 with h2 | ⟨g, cap, cur, hv, hg, r⟩
  · exact .inl h2
  · exact .inr ⟨g, cap, cur, hv, Nat.le_trans hb hg, r⟩

theorem Own.over {α : Type} {base : Nat} {e : TypeId} {sz : Nat} {cells : α → List Value} {w : World} {v : Value} {xs : List α} (h : Own base e sz cells w v xs) (x : World) : Own base e sz cells (over w x) v xs :=
  World.ownsRow.kept h ⟨rfl, rfl, rfl, by simp, fun k hk _ => heap_over w x k hk⟩ (by cases hv : v.ownBlock <;> simp) (row := none)

theorem Own.alloc {α : Type} {base : Nat} {e : TypeId} {sz : Nat} {cells : α → List Value} {w : World} {v : Value} {xs : List α} (h : Own base e sz cells w v xs) (o : Obj) : Own base e sz cells (w.alloc o) v xs := World.ownsRow.alloc h o

theorem Own.drew {α : Type} {base : Nat} {e : TypeId} {sz : Nat} {cells : α → List Value} {w : World} {v : Value} {xs : List α} (h : Own base e sz cells w v xs) : Own base e sz cells w.drew v xs := h

theorem Own.setCell {α : Type} {base : Nat} {e : TypeId} {sz : Nat} {cells : α → List Value} {w : World} {v : Value} {xs : List α} (h : Own base e sz cells w v xs) {p : Addr} (hp : p.block < base) (u : Value) : Own base e sz cells (w.setCell p u) v xs :=
  ownsRow_setCell_below h hp u

theorem Own.open_ {α : Type} {base : Nat} {e : TypeId} {sz : Nat} {cells : α → List Value} {w : World} {v : Value} {xs : List α} (hc : ∀ x, (cells x).length = sz) (h : Own base e sz cells w v xs) (h0 : 0 < xs.length) :
    ∃ g cap, v = .slice (some ⟨g, 0, none⟩) xs.length cap ∧ base ≤ g ∧ g < w.heap.size ∧ (∀ i x, xs[i]? = some x → ∀ j u, (cells x)[j]? = some u → w.cell? ⟨g, i * sz + j, none⟩ = some u) ∧ (∀ j, w.frozen? ⟨g, j, none⟩ = false) := by
  obtain ⟨h1, h2⟩ := h
  rcases h2 with ⟨rfl, h0'⟩ | ⟨g, cap, cur, rfl, hb, hg, hnc, hcm, hcs, htake⟩
  · omega
  · refine ⟨g, cap, rfl, hb, (Array.getElem?_eq_some_iff.1 hg).1, fun i x hx j u hu => ?_, fun j => frozen_of_row w g j cur e hg⟩
    have hf := flat_at hc xs i x hx j u hu
    rw [← htake, List.getElem?_take] at hf
    rw [cell_of_row w g _ cur e (0, 0) hg]
    split at hf
    · simpa using hf
    · cases hf

theorem flat_set {α : Type} {cells : α → List Value} {sz : Nat} (hc : ∀ x, (cells x).length = sz) : ∀ (xs : List α) (i : Nat) (y : α) (j : Nat) (u : Value) (hi : i < xs.length), cells y = (cells xs[i]).set j u → j < sz → flat cells (xs.set i y) = (flat cells xs).set (i * sz + j) u
  | [], i, _, _, _, hi, _, _ => by simp at hi
  | x :: xs, 0, y, j, u, _, h, hj => by
    simp only [List.getElem_cons_zero] at h
    simp only [flat, List.set_cons_zero, List.flatMap_cons, Nat.zero_mul, Nat.zero_add, h]
    rw [List.set_append_left _ _ (by rw [hc]; exact hj)]
  | x :: xs, i + 1, y, j, u, hi, h, hj => by
    have := flat_set hc xs i y j u (by simpa using hi) (by simpa using h) hj
    simp only [flat, List.set_cons_succ, List.flatMap_cons] at *
    rw [this, List.set_append_right _ _ (by rw [hc, Nat.add_mul]; omega), hc]
    congr 2
    rw [Nat.add_mul]; omega

theorem Own.set_ {α : Type} {base : Nat} {e : TypeId} {sz : Nat} {cells : α → List Value} {w : World} {g cap n : Nat} {xs : List α} (hc : ∀ x, (cells x).length = sz) (h : Own base e sz cells w (.slice (some ⟨g, 0, none⟩) n cap) xs)
    {i : Nat} (hi : i < xs.length) (y : α) (j : Nat) (u : Value) (hy : cells y = (cells xs[i]).set j u) (hj : j < sz) : Own base e sz cells (w.setCell ⟨g, i * sz + j, none⟩ u) (.slice (some ⟨g, 0, none⟩) n cap) (xs.set i y) := by
  unfold Own at *
  have hn : n = xs.length := by
    rcases h.2 with ⟨h', _⟩ | ⟨g', c', cur, h', _⟩
    · simp at h'
    · simp only [Value.slice.injEq] at h'; exact h'.2.1
  subst hn
  rw [List.length_set, flat_set hc xs i y j u hi hy hj]
  exact (World.ownsRow.stored h _ u).1

theorem over_of_grown {w w' : World} {base : Nat} {row : Option Nat} (hg : w.grownBy w' row) (hr : ∀ k, row = some k → base ≤ k) {w0 : World} (h0 : w0.heap.size ≤ base) (hw : ∃ e, w = over w0 e) : ∃ e, w' = over w0 e := by
  obtain ⟨e, rfl⟩ := hw
  exact over_of ((below_over w0 e).grown hg (by simp) (fun k hk => Nat.le_trans h0 (hr k hk)))

theorem Own.row {α : Type} {base : Nat} {e : TypeId} {sz : Nat} {cells : α → List Value} {w : World} {v : Value} {xs : List α} (h : Own base e sz cells w v xs) : ∀ k, v.ownBlock = some k → base ≤ k :=
  fun k hk => (World.ownsRow.lt h k hk).1

theorem len_max {α : Type} {sz : Nat} {cells : α → List Value} {w : World} {a : Option Addr} {cap : Nat} {xs : List α} (hs : Sl sz cells w a cap xs) : xs.length ≤ 9223372036854775807 := by
  have := hs.le; have := hs.max; unfold maxLen at *; omega
theorem Sl.alloc {α : Type} {sz : Nat} {cells : α → List Value} {w : World} {a : Option Addr} {cap : Nat} {xs : List α} (h : Sl sz cells w a cap xs) (o : Obj) : Sl sz cells (w.alloc o) a cap xs :=
  h.below ((Below.refl _ _).alloc (Nat.le_refl _) o)
theorem Sl.drew {α : Type} {sz : Nat} {cells : α → List Value} {w : World} {a : Option Addr} {cap : Nat} {xs : List α} (h : Sl sz cells w a cap xs) : Sl sz cells w.drew a cap xs := ⟨h.le, h.max, h.nul, h.rec_⟩

/-! ### A type of slices, its elements -/

structure ElemOf (P : Program) (t e : TypeId) (sz bytes : Nat) : Prop where
  ht : P.underlying t = some (.slice e)
  info : ∃ i z, P.info? e = some i ∧ i.zero = some z ∧ i.size = sz ∧ i.bytes = bytes ∧ z.cells.size = sz
  pos : 0 < sz

theorem elemOf {P : Program} {t e : TypeId} {sz bytes : Nat} {z : Value} (ht : P.underlying t = some (.slice e)) (h : (P.info? e).map (fun i => (i.zero, i.size, i.bytes)) = some (some z, sz, bytes)) (hz : z.cells.size = sz) (pos : 0 < sz) : ElemOf P t e sz bytes := by
  obtain ⟨i, h1, h2, h3, h4⟩ := info_parts h
  exact ⟨ht, ⟨i, z, h1, h2, h3, h4, hz⟩, pos⟩

section
variable {P : Program} {α : Type} {sz bytes : Nat} {cells : α → List Value} {t e : TypeId}

theorem append_run (he : ElemOf P t e sz bytes) {w w1 B : World} {base : Nat} {v : Value} {ys xs : List α} (hc : ∀ y, (cells y).length = sz) (h1c : ∀ y, ∀ u ∈ cells y, u.oneCell' = true)
    (hown : Own base e sz cells w1 v ys) (hw1 : Ov w1 w) (hB : Ov B w) (hbB : B.heap.size ≤ base) (hbw : base ≤ w1.heap.size) {a : Option Addr} {cap : Nat} (hs : Sl sz cells w a cap xs)
    (hlen : ys.length + xs.length ≤ maxLen) (hby : (ys.length + xs.length) * bytes ≤ 140737488355328) (ty : TypeId) :
    ∃ v' x, (Builtin.append_ #[t, t] ty #[v, .slice a xs.length cap]).run P w = .ok v' (over B x) ∧ Own base e sz cells (over B x) v' (ys ++ xs) ∧
      (∀ b i, w1.heap.size ≤ b → b < w.heap.size → (over B x).cell? ⟨b, i, none⟩ = w.cell? ⟨b, i, none⟩) ∧ (∀ b i, w1.heap.size ≤ b → b < w.heap.size → (over B x).frozen? ⟨b, i, none⟩ = w.frozen? ⟨b, i, none⟩) := by
  obtain ⟨i, z, g1, g2, g3, g4, g5⟩ := he.info
  have hownw : Own base e sz cells w v ys := by
    obtain ⟨x, rfl⟩ := hw1
    exact hown.over x
  obtain ⟨xB, hxB⟩ := hB
  have hfl : (flat cells xs).length = xs.length * sz := flat_length hc xs
  have h1 : ∀ u ∈ flat cells xs, u.oneCell' = true := fun u hu => by
    obtain ⟨y, _, hy⟩ := List.mem_flatMap.1 hu
    exact h1c y u hy
  have hbase : base ≤ w.heap.size := by
    obtain ⟨x, rfl⟩ := hw1
    simp; omega
  by_cases hn : a = none
  · have hx0 : xs = [] := by
      cases xs with
      | nil => rfl
      | cons y l => obtain ⟨b, off, h, _⟩ := hs.rec_ 0 y rfl; rw [hn] at h; cases h
    subst hx0
    have hc0 := hs.nul hn
    subst hn hc0
    have hr := run_append_owned_none (P := P) w base t ty e i sz he.ht g1 v ys.length (flat cells ys) hownw
    refine ⟨v, xB, by rw [← hxB]; exact hr, ?_, fun b i _ _ => by rw [← hxB], fun b i _ _ => by rw [← hxB]⟩
    rw [← hxB, List.append_nil]; exact hownw
  · obtain ⟨ad, rfl⟩ : ∃ ad, a = some ad := by cases a with | none => exact absurd rfl hn | some ad => exact ⟨ad, rfl⟩
    have hnews : ∀ j u, (flat cells xs)[j]? = some u → w.cell? (ad.add j) = some u := by
      intro j u hu
      have hj : j < xs.length * sz := by rw [← hfl]; exact (List.getElem?_eq_some_iff.1 hu).1
      have hq : j / sz < xs.length := Nat.div_lt_of_lt_mul (by rw [Nat.mul_comm]; exact hj)
      obtain ⟨b, off, h, hb, hcell⟩ := hs.rec_ (j / sz) xs[j / sz] (List.getElem?_eq_getElem hq)
      injection h with h
      have hm : j % sz < sz := Nat.mod_lt _ he.pos
      have hm2 : j % sz < (cells (xs[j / sz]'hq)).length := by rw [hc (xs[j / sz]'hq)]; exact hm
      obtain ⟨c, hu'⟩ : ∃ c, (cells (xs[j / sz]'hq))[j % sz]? = some c := ⟨_, List.getElem?_eq_getElem hm2⟩
      have hf := flat_at hc xs (j / sz) xs[j / sz] (List.getElem?_eq_getElem hq) _ _ hu'
      have hj2 : j / sz * sz + j % sz = j := by rw [Nat.mul_comm]; exact Nat.div_add_mod j sz
      rw [hj2, hu] at hf
      have := hcell _ _ hu'
      rw [← hf, Nat.add_assoc, hj2] at this
      rw [h, Go.WideShapes.add_plain]; exact this
    obtain ⟨v', w', hr, ho, hg, _⟩ := run_append_own (P := P) w base t ty e i z sz bytes he.ht g1 g2 g3 g4 g5 he.pos v ys.length (flat cells ys) hownw ad xs.length cap (flat cells xs) hfl hnews h1 hlen hby hbase
    obtain ⟨x, hx⟩ := over_of_grown hg (fun k hk => hownw.row k hk) hbB ⟨xB, hxB⟩
    subst hx
    have hkeep : ∀ b, w1.heap.size ≤ b → b < w.heap.size → (over B x).heap[b]? = w.heap[b]? := by
      intro b h1 h2
      refine hg.block b h2 fun h => ?_
      have := (World.ownsRow.lt hown b h.symm).2
      omega
    refine ⟨v', x, hr, ?_, fun b i h1 h2 => World.cell?_of_block (w := w) (hkeep b h1 h2), fun b i h1 h2 => World.frozen?_of_block (w := w) (hkeep b h1 h2)⟩
    unfold Own
    rw [flat_append, List.length_append]
    exact ho

theorem wpList_append {ops : Array Oper} {rest : List Oper} {o : Oper} {a : Act} {Q : Exit → Act → World → Prop} (he : ElemOf P t e sz bytes) {w w1 B : World} {base : Nat} {v : Value} {ys xs : List α}
    (hc : ∀ y, (cells y).length = sz) (h1c : ∀ y, ∀ u ∈ cells y, u.oneCell' = true) (hgd : o.guard = none) (s x : Operand)
    (ho : o.op = .call { callee := .builtin .append, args := #[s, x], argTypes := #[t, t] })
    (hown : Own base e sz cells w1 v ys) (hsv : a.eval s = v) {ad : Option Addr} {cap : Nat} (hxv : a.eval x = .slice ad xs.length cap)
    (hw1 : Ov w1 w) (hB : Ov B w) (hbB : B.heap.size ≤ base) (hbw : base ≤ w1.heap.size) (hs : Sl sz cells w ad cap xs)
    (hlen : ys.length + xs.length ≤ maxLen) (hby : (ys.length + xs.length) * bytes ≤ 140737488355328)
    (h : ∀ v' x, Own base e sz cells (over B x) v' (ys ++ xs) → (∀ b i, w1.heap.size ≤ b → b < w.heap.size → (over B x).cell? ⟨b, i, none⟩ = w.cell? ⟨b, i, none⟩) →
      (∀ b i, w1.heap.size ≤ b → b < w.heap.size → (over B x).frozen? ⟨b, i, none⟩ = w.frozen? ⟨b, i, none⟩) → wpList P ops Q rest (a.put o.dst v') (over B x)) :
    wpList P ops Q (o :: rest) a w := by
  obtain ⟨v', x', hr, h1, h2, h3⟩ := append_run he hc h1c hown hw1 hB hbB hbw hs hlen hby o.type
  refine wpList_plain hgd fun K hK => ?_
  unfold Oper.wp execOp
  simp only [ho, resolve, invoke, builtin, Sem.run_bind, Sem.run_pure, Result.andThen_ok, List.map_toArray, List.map_cons, List.map_nil, hsv, hxv, hr]
  exact hK _ _ (h v' x' h1 h2 h3)

theorem Sl.one {w : World} {n : Nat} {y : α} (hn : n < w.heap.size) (hcell : ∀ j u, (cells y)[j]? = some u → w.cell? ⟨n, j, none⟩ = some u) : Sl sz cells w (some ⟨n, 0, none⟩) 1 [y] :=
  ⟨Nat.le_refl _, by unfold maxLen; omega, (fun h => nomatch h), fun i x hx => by
    have hi : i = 0 := by
      have := (List.getElem?_eq_some_iff.1 hx).1
      simp at this; exact this
    subst hi
    simp at hx
    subst hx
    exact ⟨n, 0, rfl, hn, fun j u hu => by simpa using hcell j u hu⟩⟩

theorem Sl.one_new {w : World} {y : α} {n : Nat} (hn : n = w.heap.size) : Sl sz cells (w.alloc (.cells (cells y).toArray e)) (some ⟨n, 0, none⟩) 1 [y] := by
  subst hn
  exact Sl.one (by simp) fun j u hu => by rw [World.cell?_alloc_new]; simpa using hu
theorem Sl.lit_new {w : World} {xs : List α} {n : Nat} (hc : ∀ x, (cells x).length = sz) (hn : n = w.heap.size) (hm : xs.length ≤ maxLen) : Sl sz cells (w.alloc (.cells (flat cells xs).toArray e)) (some ⟨n, 0, none⟩) xs.length xs := by
  subst hn
  have h := World.ownsRow_lit (base := 0) (e := e) (size := sz) w (flat cells xs).toArray xs.length (Nat.zero_le _) hm (by simp [flat_length hc])
  have h' : Own 0 e sz cells (w.alloc (.cells (flat cells xs).toArray e)) (.slice (some ⟨w.heap.size, 0, none⟩) xs.length xs.length) xs := by simpa [Own] using h
  obtain ⟨a, cap, hv, hs⟩ := Own.slice hc h'
  simp only [Value.slice.injEq] at hv
  obtain ⟨rfl, _, rfl⟩ := hv
  exact hs
end

theorem Sl.lit_as {α : Type} {sz : Nat} {cells : α → List Value} {e : TypeId} {w : World} {xs : List α} {n k : Nat} {cs : Array Value} (hc : ∀ x, (cells x).length = sz) (hcs : cs = (flat cells xs).toArray) (hk : k = xs.length) (hn : n = w.heap.size) (hm : xs.length ≤ maxLen) : Sl sz cells (w.alloc (.cells cs e)) (some ⟨n, 0, none⟩) k xs := by
  subst hcs hk
  exact Sl.lit_new hc hn hm

/-! ### Arguments: values of plain types, flat -/

def okLeaf : Option IntKind → Value → Prop
  | some k, v => ∃ n, v = .int k n ∧ (Lit.int k n).wf = true
  | none, v => ∃ b, v = .bool b

def okAll : List (Option IntKind) → List Value → Prop
  | [], [] => True
  | k :: ks, v :: vs => okLeaf k v ∧ okAll ks vs
  | _, _ => False

def flatFs (g : TypeId → Option (List (Option IntKind))) (size : TypeId → Nat) : Nat → List Field → Option (List (Option IntKind))
  | _, [] => some []
  | off, f :: fs =>
    match g f.type, flatFs g size (off + size f.type) fs with
    | some l, some r => if f.offset = off ∧ size f.type = l.length then some (l ++ r) else none
    | _, _ => none

def flatT (P : Program) : Nat → TypeId → Option (List (Option IntKind))
  | 0, _ => none
  | d + 1, t =>
    match P.underlying t with
    | some (.int k) => some [some k]
    | some .bool => some [none]
    | some (.struct fs) =>
      match flatFs (flatT P d) P.cellsOf 0 fs.toList with
      | some l => if P.cellsOf t = l.length then some l else none
      | none => none
    | _ => none

section
variable {H : Type} {enc : TypeId × Value → H} {P : Program} {w : World} {base : Nat} {spare : Nat → Bool} {held : Bool}

end

attribute [irreducible] over

theorem szA {p : Prop} (k : p := by first | exact Nat.le_refl _ | rfl | omega | (simp; done) | (simp; omega)) : p := k
end
section
open Go.RowKit

structure Chg (F : List Nat) (w w' : World) : Prop where
  os : w'.os = w.os
  tape : w'.tape = w.tape
  output : w'.output = w.output
  size : w.heap.size ≤ w'.heap.size
  block : ∀ k, k < w.heap.size → k ∉ F → w'.heap[k]? = w.heap[k]?

theorem Chg.refl (F : List Nat) (w : World) : Chg F w w := ⟨rfl, rfl, rfl, Nat.le_refl _, fun _ _ _ => rfl⟩
theorem Chg.trans {F : List Nat} {a b c : World} (h : Chg F a b) (k : Chg F b c) : Chg F a c :=
  ⟨k.os.trans h.os, k.tape.trans h.tape, k.output.trans h.output, Nat.le_trans h.size k.size, fun i hi hn => (k.block i (Nat.lt_of_lt_of_le hi h.size) hn).trans (h.block i hi hn)⟩
theorem Chg.then {F G : List Nat} {a b c : World} (h : Chg F a b) (k : Chg G b c) (hg : ∀ i ∈ G, i ∈ F ∨ a.heap.size ≤ i) : Chg F a c :=
  ⟨k.os.trans h.os, k.tape.trans h.tape, k.output.trans h.output, Nat.le_trans h.size k.size, fun i hi hn =>
    (k.block i (Nat.lt_of_lt_of_le hi h.size) (fun hm => by rcases hg i hm with h1 | h1; exact hn h1; omega)).trans (h.block i hi hn)⟩
theorem Chg.mono {F G : List Nat} {a b : World} (h : Chg F a b) (hg : ∀ i ∈ F, i ∈ G ∨ a.heap.size ≤ i) : Chg G a b :=
  ⟨h.os, h.tape, h.output, h.size, fun i hi hn => h.block i hi fun hm => by rcases hg i hm with h1 | h1; exact hn h1; omega⟩
theorem Chg.alloc {F : List Nat} {a b : World} (h : Chg F a b) (o : Obj) : Chg F a (b.alloc o) :=
  ⟨h.os, h.tape, h.output, by have := h.size; simp; omega, fun k hk hn => (heap_alloc_old b o (Nat.lt_of_lt_of_le hk h.size)).trans (h.block k hk hn)⟩
theorem Chg.drew {F : List Nat} {a b : World} (h : Chg F a b) : Chg F a b.drew := ⟨h.os, h.tape, h.output, h.size, h.block⟩
theorem Chg.on {F : List Nat} {a b : World} (h : Chg F a b) (e : World) : Chg F a (over b e) := by
  obtain ⟨h1, h2, h3, h4, h5⟩ := below_over b e
  exact ⟨h1.trans h.os, h2.trans h.tape, h3.trans h.output, Nat.le_trans h.size h4, fun k hk hn => (h5 k (Nat.lt_of_lt_of_le hk h.size)).trans (h.block k hk hn)⟩
theorem heap_setCell_ne (w : World) (p : Addr) (u : Value) (k : Nat) (h : k ≠ p.block) : (w.setCell p u).heap[k]? = w.heap[k]? := by
  simp only [World.setCell, Array.getElem?_modify, if_neg (Ne.symm h)]
theorem Chg.setCell {F : List Nat} {a b : World} (h : Chg F a b) {p : Addr} (hp : p.block ∈ F ∨ a.heap.size ≤ p.block) (u : Value) : Chg F a (b.setCell p u) :=
  ⟨h.os, h.tape, h.output, by have := h.size; simpa using this, fun k hk hn => by
    rw [heap_setCell_ne _ _ _ _ (fun hkp => by subst hkp; rcases hp with hp | hp; exact hn hp; omega)]
    exact h.block k hk hn⟩
theorem Chg.grown {F : List Nat} {a b c : World} {row : Option Nat} (h : Chg F a b) (hg : b.grownBy c row) (hr : ∀ r, row = some r → r ∈ F ∨ a.heap.size ≤ r) : Chg F a c :=
  ⟨hg.os.trans h.os, hg.tape.trans h.tape, hg.output.trans h.output, Nat.le_trans h.size hg.size, fun k hk hn =>
    (hg.block k (Nat.lt_of_lt_of_le hk h.size) (fun hm => by rcases hr k hm.symm with h1 | h1; exact hn h1; omega)).trans (h.block k hk hn)⟩
theorem Chg.ov {F : List Nat} {w0 a b : World} (h : Ov w0 a) (k : Chg F a b) (hF : ∀ i ∈ F, w0.heap.size ≤ i) : Ov w0 b := by
  obtain ⟨e, rfl⟩ := h
  have hs : w0.heap.size ≤ (over w0 e).heap.size := by simp
  have hb := below_over w0 e
  exact over_of ⟨k.os.trans hb.os, k.tape.trans hb.tape, k.output.trans hb.output, Nat.le_trans hs k.size, fun i hi => (k.block i (Nat.lt_of_lt_of_le hi hs) (fun hm => by have := hF i hm; omega)).trans (heap_over w0 e i hi)⟩
theorem Chg.of_ov {w w' : World} (h : Ov w w') (F : List Nat) : Chg F w w' := by
  obtain ⟨e, rfl⟩ := h; exact (Chg.refl F w).on e
/-! ### The world behind such a call, written as a world over the one ahead of it -/
structure Mut where
  f : Nat → Obj
  e : World
structure MutI where
  m : Mut
  n : Int
instance : Inhabited Mut := ⟨⟨fun _ => default, default⟩⟩
instance : Inhabited MutI := ⟨⟨default, 0⟩⟩
def chg (F : List Nat) (w : World) (m : Mut) : World := { heap := (w.heap.mapIdx fun k o => if k ∈ F then m.f k else o) ++ m.e.heap, tape := w.tape, drawn := m.e.drawn, os := w.os, output := w.output }
@[go_sem, simp] theorem size_chg (F : List Nat) (w : World) (m : Mut) : (chg F w m).heap.size = w.heap.size + m.e.heap.size := by simp [chg]
@[go_sem, simp] theorem tape_chg (F : List Nat) (w : World) (m : Mut) : (chg F w m).tape = w.tape := rfl
theorem heap_chg (F : List Nat) (w : World) (m : Mut) (k : Nat) (h : k < w.heap.size) (hF : k ∉ F) : (chg F w m).heap[k]? = w.heap[k]? := by
  show (_ ++ m.e.heap)[k]? = _
  rw [Array.getElem?_append_left (by simpa using h), Array.getElem?_mapIdx]
  simp [hF]
theorem chg_chg (F : List Nat) (w : World) (m : Mut) : Chg F w (chg F w m) := ⟨rfl, rfl, rfl, by simp, fun k h hF => heap_chg F w m k h hF⟩
@[go_sem] theorem cell_chg (F : List Nat) (w : World) (m : Mut) (n i : Nat) (h : n < w.heap.size) (hF : n ∉ F) : (chg F w m).cell? ⟨n, i, none⟩ = w.cell? ⟨n, i, none⟩ := World.cell?_of_block (heap_chg F w m n h hF)
@[go_sem] theorem frozen_chg (F : List Nat) (w : World) (m : Mut) (n i : Nat) (h : n < w.heap.size) (hF : n ∉ F) : (chg F w m).frozen? ⟨n, i, none⟩ = w.frozen? ⟨n, i, none⟩ := World.frozen?_of_block (heap_chg F w m n h hF)
theorem setCell_chg (F : List Nat) (w : World) (m : Mut) (n i : Nat) (v : Value) (h : n < w.heap.size) (hF : n ∉ F) : (chg F w m).setCell ⟨n, i, none⟩ v = chg F (w.setCell ⟨n, i, none⟩ v) m := by
  simp only [chg, World.setCell, World.mk.injEq, and_true]
  apply Array.ext_getElem?
  intro j
  simp only [Array.getElem?_modify, Array.getElem?_append, Array.size_mapIdx, Array.getElem?_mapIdx, Array.size_modify]
  by_cases hj : j < w.heap.size
  · by_cases hjn : n = j
    · subst hjn; simp [hj, hF]
    · simp [hj, hjn]
  · simp [hj]; omega
theorem chg_of {F : List Nat} {w w' : World} (h : Chg F w w') : ∃ m, w' = chg F w m := by
  refine ⟨⟨fun k => w'.heap.getD k default, { w' with heap := w'.heap.extract w.heap.size w'.heap.size }⟩, ?_⟩
  obtain ⟨h1, h2, h3, h4, h5⟩ := h
  cases w' with
  | mk heap tape drawn os output =>
    simp only at h1 h2 h3 h4 h5
    subst h1 h2 h3
    simp only [chg, World.mk.injEq, and_true]
    apply Array.ext_getElem?
    intro i
    rcases Nat.lt_or_ge i w.heap.size with hi | hi
    · rw [Array.getElem?_append_left (by simpa using hi), Array.getElem?_mapIdx]
      have hi' : i < heap.size := Nat.lt_of_lt_of_le hi h4
      by_cases hF : i ∈ F
      · simp [hF, Array.getElem?_eq_getElem hi, Array.getElem?_eq_getElem hi']
      · simp [hF, h5 i hi hF]
    · rw [Array.getElem?_append_right (by simpa using hi), Array.getElem?_extract]
      simp only [Array.size_mapIdx, Nat.min_self]
      rcases Nat.lt_or_ge i heap.size with hj | hj
      · rw [if_pos (by omega)]
        congr 1
        omega
      · rw [if_neg (by omega), Array.getElem?_eq_none hj]
theorem Chg.in_ {F G : List Nat} {a b : World} (h : Chg F a b) (m : Mut) (hg : ∀ i ∈ G, i ∈ F ∨ a.heap.size ≤ i) : Chg F a (chg G b m) := h.then (chg_chg G b m) hg
theorem ex_chg {F : List Nat} {w a : World} (h : ∃ e, a = over w e) (m : Mut) (hF : ∀ i ∈ F, w.heap.size ≤ i) : ∃ e, chg F a m = over w e := Chg.ov h (chg_chg F a m) hF
def Cls (F : List Nat) (w : World) (w' : World) : Prop := ∃ m, w' = chg F w m
theorem Cls.of {F : List Nat} {w w' : World} (h : Chg F w w') : Cls F w w' := chg_of h
theorem Cls.chg {F : List Nat} {w w' : World} (h : Cls F w w') : Chg F w w' := by obtain ⟨m, rfl⟩ := h; exact chg_chg F w m

theorem Chg.list {F : List Nat} {w w' : World} (h : Chg F w w') : ∃ m, w' = chg F w m := chg_of h

structure ChS (F : List Nat) (a b : World) : Prop where
  chg : Chg F a b
  same : b.heap.size = a.heap.size
theorem ChS.refl (F : List Nat) (w : World) : ChS F w w := ⟨Chg.refl F w, rfl⟩
theorem ChS.drewl {F : List Nat} {a b : World} (h : ChS F a b) : ChS F a.drew b := ⟨⟨h.1.os, h.1.tape, h.1.output, h.1.size, h.1.block⟩, h.2⟩
theorem ChS.drewr {F : List Nat} {a b : World} (h : ChS F a b) : ChS F a b.drew := ⟨h.1.drew, h.2⟩
theorem ChS.alloc {F : List Nat} {a b : World} (h : ChS F a b) (o : Obj) : ChS F (a.alloc o) (b.alloc o) :=
  ⟨⟨h.1.os, h.1.tape, h.1.output, by simp [h.2], fun k hk hn => by
    simp only [World.alloc, Array.size_push] at hk ⊢
    rw [Array.getElem?_push, Array.getElem?_push, h.2]
    split
    · rfl
    · exact h.1.block k (by omega) hn⟩, by simp [h.2]⟩
theorem ChS.lit {F : List Nat} {a b : World} (h : ChS F a b) (hF : a.heap.size ∈ F) (o o' : Obj) : ChS F (a.alloc o) (b.alloc o') :=
  ⟨⟨h.1.os, h.1.tape, h.1.output, by simp [h.2], fun k hk hn => by
    simp only [World.alloc, Array.size_push] at hk ⊢
    rw [Array.getElem?_push, Array.getElem?_push, h.2]
    split
    · rename_i e; subst e; exact absurd hF hn
    · exact h.1.block k (by omega) hn⟩, by simp [h.2]⟩
theorem ChS.over {F : List Nat} {a b : World} (h : ChS F a b) (e : World) : ChS F (Go.Proofs.YtnihngljmmbenaaGreatDoor.over a e) (Go.Proofs.YtnihngljmmbenaaGreatDoor.over b e) := by
  have ha := below_over a e
  have hb := below_over b e
  refine ⟨⟨hb.os.trans (h.1.os.trans ha.os.symm), hb.tape.trans (h.1.tape.trans ha.tape.symm), hb.output.trans (h.1.output.trans ha.output.symm), by simp [h.2], fun k hk hn => ?_⟩, by simp [h.2]⟩
  by_cases hka : k < a.heap.size
  · rw [heap_over b e k (by rw [h.2]; exact hka), heap_over a e k hka]; exact h.1.block k hka hn
  · have e1 : (Go.Proofs.YtnihngljmmbenaaGreatDoor.over a e).heap[k]? = e.heap[k - a.heap.size]? := by unfold Go.Proofs.YtnihngljmmbenaaGreatDoor.over; simp only; rw [Array.getElem?_append_right (by omega)]
    have e2 : (Go.Proofs.YtnihngljmmbenaaGreatDoor.over b e).heap[k]? = e.heap[k - b.heap.size]? := by unfold Go.Proofs.YtnihngljmmbenaaGreatDoor.over; simp only; rw [Array.getElem?_append_right (by rw [h.2]; omega)]
    rw [e1, e2, h.2]

theorem run_enter {P : Program} {f : FuncId} {fn : Func} {c : Code} (hf : P.funcs[f]? = some fn) (hname : (fn.name == "runtime.NumGoroutine") = false) (hb : fn.body = some c) (args : Array Value) (w : World) :
    (callFunc f args).run P w = .ok (.enter f args) w := by
  have h1 : fn.name ≠ "runtime.NumGoroutine" := by simpa using hname
  simp [callFunc, hf, h1, hb]

def Blk (w : World) (p : Nat) (cs : List Value) (t : TypeId) : Prop := w.heap[p]? = some (.cells cs.toArray t (0, 0))

theorem Blk.to {w : World} {p : Nat} {cs cs' : List Value} {t : TypeId} (h : Blk w p cs' t) (e : cs' = cs) : Blk w p cs t := e ▸ h
theorem Blk.lt {w : World} {p : Nat} {cs : List Value} {t : TypeId} (h : Blk w p cs t) : p < w.heap.size := (Array.getElem?_eq_some_iff.1 h).1
theorem Blk.cell {w : World} {p : Nat} {cs : List Value} {t : TypeId} (h : Blk w p cs t) (i : Nat) {u : Value} (hu : cs[i]? = some u) : w.cell? ⟨p, i, none⟩ = some u := by
  unfold Blk at h
  simp [World.cell?, h, hu]
theorem Blk.free {w : World} {p : Nat} {cs : List Value} {t : TypeId} (h : Blk w p cs t) (i : Nat) : w.frozen? ⟨p, i, none⟩ = false := by
  unfold Blk at h
  simp [World.frozen?, h]
theorem Blk.chg {w w' : World} {p : Nat} {cs : List Value} {t : TypeId} {F : List Nat} (h : Blk w p cs t) (hc : Chg F w w') (hp : p ∉ F) : Blk w' p cs t := (hc.block p h.lt hp).trans h
theorem Blk.alloc {w : World} {p : Nat} {cs : List Value} {t : TypeId} (h : Blk w p cs t) (o : Obj) : Blk (w.alloc o) p cs t := (heap_alloc_old w o h.lt).trans h
theorem Blk.drew {w : World} {p : Nat} {cs : List Value} {t : TypeId} (h : Blk w p cs t) : Blk w.drew p cs t := h
theorem Blk.on {w : World} {p : Nat} {cs : List Value} {t : TypeId} (h : Blk w p cs t) (e : World) : Blk (over w e) p cs t := (heap_over w e p h.lt).trans h
theorem Blk.new (w : World) (cs : List Value) (t : TypeId) : Blk (w.alloc (.cells cs.toArray t)) w.heap.size cs t := heap_alloc_new w _
theorem Blk.set {w : World} {p : Nat} {cs : List Value} {t : TypeId} (h : Blk w p cs t) (i : Nat) (u : Value) : Blk (w.setCell ⟨p, i, none⟩ u) p (cs.set i u) t := by
  have hlt := h.lt
  unfold Blk at *
  have h' : w.heap[p] = .cells cs.toArray t (0, 0) := by simpa [Array.getElem?_eq_getElem hlt] using h
  show (w.heap.modify p _)[p]? = _
  rw [Array.getElem?_eq_getElem (by simpa using hlt), Array.getElem_modify_self, h']
  simp [List.setIfInBounds_toArray]
theorem Blk.set_ne {w : World} {p : Nat} {cs : List Value} {t : TypeId} (h : Blk w p cs t) {q : Addr} (hq : p ≠ q.block) (u : Value) : Blk (w.setCell q u) p cs t := (heap_setCell_ne w q u p hq).trans h

def lay (w : World) (p : Nat) (cs : List Value) (t : TypeId) : World := { w with heap := w.heap.setIfInBounds p (.cells cs.toArray t (0, 0)) }
@[go_sem, simp] theorem size_lay (w : World) (p : Nat) (cs : List Value) (t : TypeId) : (lay w p cs t).heap.size = w.heap.size := by simp [lay]
theorem lay_self {w : World} {p : Nat} {cs : List Value} {t : TypeId} (h : Blk w p cs t) : lay w p cs t = w := by
  have hlt := h.lt
  have h' : w.heap[p] = .cells cs.toArray t (0, 0) := by unfold Blk at h; simpa [Array.getElem?_eq_getElem hlt] using h
  unfold lay
  have : w.heap.setIfInBounds p (.cells cs.toArray t (0, 0)) = w.heap := by
    apply Array.ext_getElem?
    intro i
    rw [Array.getElem?_setIfInBounds]
    split
    · rename_i e; subst e; rw [Array.getElem?_eq_getElem hlt, h']
    · rfl
  rw [this]
theorem lay_same (w : World) (p : Nat) (cs : List Value) (t : TypeId) (h : p < w.heap.size) : Blk (lay w p cs t) p cs t := by
  unfold Blk lay; simp [Array.getElem?_setIfInBounds, h]
theorem lay_ne (w : World) (p : Nat) (cs : List Value) (t : TypeId) (k : Nat) (h : ¬ k = p) : (lay w p cs t).heap[k]? = w.heap[k]? := by
  unfold lay; simp [Array.getElem?_setIfInBounds, Ne.symm h]
@[go_sem] theorem cell_lay_same (w : World) (p i : Nat) (cs : List Value) (t : TypeId) (h : p < w.heap.size) : (lay w p cs t).cell? ⟨p, i, none⟩ = cs[i]? := by
  have := lay_same w p cs t h
  unfold Blk at this
  simp [World.cell?, this]
@[go_sem] theorem cell_lay_ne (w : World) (p n i : Nat) (cs : List Value) (t : TypeId) (h : ¬ n = p) : (lay w p cs t).cell? ⟨n, i, none⟩ = w.cell? ⟨n, i, none⟩ := World.cell?_of_block (lay_ne w p cs t n h)
@[go_sem] theorem frozen_lay_same (w : World) (p i : Nat) (cs : List Value) (t : TypeId) (h : p < w.heap.size) : (lay w p cs t).frozen? ⟨p, i, none⟩ = false := (lay_same w p cs t h).free i
@[go_sem] theorem frozen_lay_ne (w : World) (p n i : Nat) (cs : List Value) (t : TypeId) (h : ¬ n = p) : (lay w p cs t).frozen? ⟨n, i, none⟩ = w.frozen? ⟨n, i, none⟩ := World.frozen?_of_block (lay_ne w p cs t n h)
theorem Sl.chg {α : Type} {sz : Nat} {cells : α → List Value} {w w' : World} {a : Option Addr} {cap : Nat} {xs : List α} {F : List Nat} (h : Sl sz cells w a cap xs) (hc : Chg F w w') (hF : ∀ ad, a = some ad → ad.block ∉ F) : Sl sz cells w' a cap xs :=
  ⟨h.le, h.max, h.nul, fun i x hx => by
    obtain ⟨b, off, rfl, hb, hcell⟩ := h.rec_ i x hx
    exact ⟨b, off, rfl, Nat.lt_of_lt_of_le hb hc.size, fun j u hu => by
      rw [World.cell?_of_block (w := w) (a := ⟨b, off + i * sz + j, none⟩) (hc.block b hb (hF _ rfl))]; exact hcell j u hu⟩⟩
theorem Own.chg {α : Type} {base : Nat} {e : TypeId} {sz : Nat} {cells : α → List Value} {w w' : World} {v : Value} {xs : List α} {F : List Nat} (h : Own base e sz cells w v xs) (hc : Chg F w w') (hF : ∀ g, v.ownBlock = some g → g ∉ F) : Own base e sz cells w' v xs := by
  refine ⟨h.1, ?_⟩
  rcases h.2 with hn | ⟨g, cap, cur, rfl, hb, hgg, rest⟩
  · exact .inl hn
  · refine .inr ⟨g, cap, cur, rfl, hb, ?_, rest⟩
    rw [hc.block g (Array.getElem?_eq_some_iff.1 hgg).1 (hF g rfl)]
    exact hgg
theorem Own.lt {α : Type} {base : Nat} {e : TypeId} {sz : Nat} {cells : α → List Value} {w : World} {v : Value} {xs : List α} (h : Own base e sz cells w v xs) {g : Nat} (hg : v.ownBlock = some g) : base ≤ g ∧ g < w.heap.size := World.ownsRow.lt h g hg
theorem Own.set_ne {α : Type} {base : Nat} {e : TypeId} {sz : Nat} {cells : α → List Value} {w : World} {v : Value} {xs : List α} (h : Own base e sz cells w v xs) {q : Addr} (hq : v.ownBlock ≠ some q.block) (u : Value) : Own base e sz cells (w.setCell q u) v xs :=
  h.chg (F := [q.block]) ((Chg.refl _ w).setCell (.inl (by simp)) u) (fun g hg hm => hq (by simp at hm; rw [hg, hm]))
theorem Own.over_swap {α : Type} {base : Nat} {e : TypeId} {sz : Nat} {cells : α → List Value} {a b x : World} {v : Value} {xs : List α} (h : Own base e sz cells (Go.Proofs.YtnihngljmmbenaaGreatDoor.over a x) v xs) (hs : b.heap.size = a.heap.size) (hb : a.heap.size ≤ base) : Own base e sz cells (Go.Proofs.YtnihngljmmbenaaGreatDoor.over b x) v xs := by
  refine ⟨h.1, ?_⟩
  rcases h.2 with hn | ⟨g, cap, cur, rfl, hg, hgg, rest⟩
  · exact .inl hn
  · refine .inr ⟨g, cap, cur, rfl, hg, ?_, rest⟩
    rw [← hgg]
    unfold Go.Proofs.YtnihngljmmbenaaGreatDoor.over
    show (b.heap ++ x.heap)[g]? = (a.heap ++ x.heap)[g]?
    rw [Array.getElem?_append_right (by omega), Array.getElem?_append_right (by omega), hs]
theorem Own.in_one {α : Type} {base : Nat} {e : TypeId} {sz : Nat} {cells : α → List Value} {w : World} {v : Value} {xs : List α} {p : Nat} (h : Own base e sz cells w v xs) (m : Mut) (hp : v.ownBlock ≠ some p) : Own base e sz cells (Go.Proofs.YtnihngljmmbenaaGreatDoor.chg [p] w m) v xs :=
  h.chg (chg_chg _ _ _) (fun g hg hm => hp (by simp at hm; rw [hg, hm]))
theorem Own.in_some {α : Type} {base : Nat} {e : TypeId} {sz : Nat} {cells : α → List Value} {w : World} {g o n c : Nat} {xs : List α} {F : List Nat} (h : Own base e sz cells w (.slice (some ⟨g, o, none⟩) n c) xs) (m : Mut) (hF : g ∉ F) : Own base e sz cells (Go.Proofs.YtnihngljmmbenaaGreatDoor.chg F w m) (.slice (some ⟨g, o, none⟩) n c) xs :=
  h.chg (chg_chg _ _ _) (fun g' hg => by simp [Value.ownBlock] at hg; subst hg; exact hF)
theorem Own.form1 {α : Type} {base : Nat} {e : TypeId} {sz : Nat} {cells : α → List Value} {w : World} {v : Value} {ys : List α} {x : α} (h : Own base e sz cells w v (ys ++ [x])) : ∃ g cap, v = .slice (some ⟨g, 0, none⟩) (ys.length + 1) cap := by
  rcases h.2 with ⟨_, h⟩ | ⟨g, cap, _, h, _⟩
  · simp at h
  · exact ⟨g, cap, by rw [h]; simp⟩
theorem Own.slice' {α : Type} {base : Nat} {e : TypeId} {sz : Nat} {cells : α → List Value} {w : World} {a : Option Addr} {n cap : Nat} {xs : List α} (hc : ∀ x, (cells x).length = sz) (h : Own base e sz cells w (.slice a n cap) xs) : n = xs.length ∧ Sl sz cells w a cap xs := by
  obtain ⟨a', cap', hv, hs⟩ := Own.slice hc h
  simp only [Value.slice.injEq] at hv
  obtain ⟨rfl, h2, rfl⟩ := hv
  exact ⟨h2, hs⟩

theorem Chg.setCells {F : List Nat} {a : World} {g : Nat} (hp : g ∈ F ∨ a.heap.size ≤ g) : ∀ (vs : List Value) (o : Nat) (b : World), Chg F a b → Chg F a (b.setCells g o vs)
  | [], _, _, h => h
  | v :: r, o, b, h => Chg.setCells hp r (o + 1) _ (h.setCell hp v)
def putAt (l : List Value) (o : Nat) (vs : List Value) : List Value := l.take o ++ vs ++ l.drop (o + vs.length)
theorem putAt_nil (l : List Value) (o : Nat) : putAt l o [] = l := by simp [putAt]
theorem putAt_cons (l : List Value) (o : Nat) (v : Value) (r : List Value) (h : o < l.length) : putAt l o (v :: r) = putAt (l.set o v) (o + 1) r := by
  unfold putAt
  apply List.ext_getElem?
  intro i
  have e1 : o + (v :: r).length = o + 1 + r.length := by simp; omega
  rw [e1]
  simp only [List.getElem?_append, List.length_take, List.length_append, List.length_set, List.length_cons, List.getElem?_take, List.getElem?_drop, List.getElem?_set, List.getElem?_cons]
  rw [Nat.min_eq_left (by omega : o ≤ l.length), Nat.min_eq_left (by omega : o + 1 ≤ l.length)]
  by_cases h1 : i < o
  · rw [if_pos (by omega), if_pos h1, if_pos h1, if_pos (by omega), if_pos (by omega), if_pos (by omega), if_neg (by omega)]
  · by_cases h2 : i = o
    · subst h2
      rw [if_pos (by omega), if_neg (by omega), if_pos (by omega), if_pos (by omega), if_pos (by omega), if_pos (by omega), if_pos rfl, if_pos h]
    · by_cases h3 : i < o + 1 + r.length
      · rw [if_pos (by omega), if_neg h1, if_neg (by omega), if_pos h3, if_neg (by omega)]
        congr 1 <;> omega
      · rw [if_neg (by omega), if_neg h3, if_neg (by omega)]
        congr 1 <;> omega
theorem ownsRow_setCells {w : World} {base : Nat} {e : TypeId} {size g cap n : Nat} : ∀ (vs : List Value) (o : Nat) (w : World) (xs : List Value), w.ownsRow base e size (.slice (some ⟨g, 0, none⟩) n cap) n xs → o + vs.length ≤ xs.length →
    (w.setCells g o vs).ownsRow base e size (.slice (some ⟨g, 0, none⟩) n cap) n (putAt xs o vs)
  | [], o, w, xs, h, _ => by rw [putAt_nil]; exact h
  | v :: r, o, w, xs, h, hl => by
    simp only [List.length_cons] at hl
    rw [putAt_cons xs o v r (by omega)]
    exact ownsRow_setCells (w := w) r (o + 1) _ _ (World.ownsRow.stored h o v).1 (by simp; omega)
theorem flat_putAt {α : Type} {cells : α → List Value} {sz : Nat} (hc : ∀ x, (cells x).length = sz) : ∀ (xs : List α) (i : Nat) (y : α), i < xs.length → putAt (flat cells xs) (i * sz) (cells y) = flat cells (xs.set i y)
  | x :: xs, 0, y, _ => by
    simp only [Nat.zero_mul, putAt, List.take_zero, List.nil_append, Nat.zero_add, List.set_cons_zero, flat, List.flatMap_cons]
    rw [hc y, ← hc x, List.drop_left]
  | x :: xs, i + 1, y, h => by
    have ih := flat_putAt hc xs i y (by simpa using h)
    simp only [flat, List.flatMap_cons, List.set_cons_succ] at *
    rw [← ih]
    unfold putAt
    have e : (i + 1) * sz = (cells x).length + i * sz := by rw [hc x, Nat.add_mul]; omega
    rw [e, List.take_length_add_append, Nat.add_assoc, List.drop_length_add_append]
    simp [List.append_assoc]
theorem Own.setRec {α : Type} {base : Nat} {e : TypeId} {sz : Nat} {cells : α → List Value} {w : World} {g cap n : Nat} {xs : List α} (hc : ∀ x, (cells x).length = sz) (h : Own base e sz cells w (.slice (some ⟨g, 0, none⟩) n cap) xs)
    {i : Nat} (hi : i < xs.length) (y : α) : Own base e sz cells (w.setCells g (i * sz) (cells y)) (.slice (some ⟨g, 0, none⟩) n cap) (xs.set i y) := by
  have hn := (Own.slice' hc h).1
  subst hn
  unfold Own at *
  rw [List.length_set, ← flat_putAt hc xs i y hi]
  refine ownsRow_setCells (w := w) _ _ _ _ h ?_
  rw [flat_length hc, hc y, ← Nat.succ_mul]
  exact Nat.mul_le_mul_right sz hi
theorem Own.cut {α : Type} {base : Nat} {e : TypeId} {sz : Nat} {cells : α → List Value} {w : World} {g cap n : Nat} {xs : List α} (hc : ∀ x, (cells x).length = sz) (h : Own base e sz cells w (.slice (some ⟨g, 0, none⟩) n cap) xs)
    {i : Nat} (hi : i ≤ xs.length) : Own base e sz cells w (.slice (some ⟨g, 0, none⟩) i cap) (xs.take i) := by
  have hn := (Own.slice' hc h).1
  subst hn
  unfold Own at *
  obtain ⟨h1, h2⟩ := h
  rcases h2 with ⟨h2, _⟩ | ⟨g', cap', cur, h2, hb, hg, hnc, hcm, hcs, ht⟩
  · cases h2
  · simp only [Value.slice.injEq, Option.some.injEq, Addr.mk.injEq] at h2
    obtain ⟨⟨rfl, _, _⟩, _, rfl⟩ := h2
    have hfl : flat cells (xs.take i) = (flat cells xs).take (i * sz) := by
      have := List.take_append_drop i xs
      conv => rhs; rw [← this, flat_append]
      have e : (flat cells (xs.take i)).length = i * sz := by rw [flat_length hc, List.length_take, Nat.min_eq_left hi]
      rw [← e, List.take_left]
    rw [List.length_take, Nat.min_eq_left hi]
    refine ⟨by rw [flat_length hc, List.length_take, Nat.min_eq_left hi], .inr ⟨g, cap, cur, rfl, hb, hg, by omega, hcm, hcs, ?_⟩⟩
    rw [hfl, ← ht, List.take_take, Nat.min_eq_left (Nat.mul_le_mul_right sz hi)]
theorem Own.setCells_past {α : Type} {base : Nat} {e : TypeId} {sz : Nat} {cells : α → List Value} {g cap n : Nat} {xs : List α} (hc : ∀ x, (cells x).length = sz) : ∀ (vs : List Value) (o : Nat) (w : World), Own base e sz cells w (.slice (some ⟨g, 0, none⟩) n cap) xs → xs.length * sz ≤ o →
    Own base e sz cells (w.setCells g o vs) (.slice (some ⟨g, 0, none⟩) n cap) xs
  | [], _, _, h, _ => h
  | v :: r, o, w, h, hl => by
    refine Own.setCells_past hc r (o + 1) _ ?_ (by omega)
    have hn := (Own.slice' hc h).1
    subst hn
    unfold Own at *
    obtain ⟨h1, h2⟩ := h
    refine ⟨h1, ?_⟩
    rcases h2 with ⟨h2, _⟩ | ⟨g', cap', cur, h2, hb, hg, hnc, hcm, hcs, ht⟩
    · cases h2
    · simp only [Value.slice.injEq, Option.some.injEq, Addr.mk.injEq] at h2
      obtain ⟨⟨rfl, _, _⟩, _, rfl⟩ := h2
      refine .inr ⟨g, cap, cur.setIfInBounds o v, rfl, hb, ?_, hnc, hcm, by simpa using hcs, ?_⟩
      · have hlt := (Array.getElem?_eq_some_iff.1 hg).1
        have h' : w.heap[g] = .cells cur e (0, 0) := by simpa [Array.getElem?_eq_getElem hlt] using hg
        show (w.heap.modify g _)[g]? = _
        rw [Array.getElem?_eq_getElem (by simpa using hlt), Array.getElem_modify_self, h']
        simp
      · rw [← ht]
        simp only [Array.toList_setIfInBounds]
        rw [List.take_set_of_le (by rw [← h1, flat_length hc]; exact hl)]

section
variable {P : Program} {t e : TypeId} {sz bytes : Nat} {α : Type} {cells : α → List Value} {w : World}
theorem append_run' (he : ElemOf P t e sz bytes) {base : Nat} {v : Value} {ys xs : List α} (hc : ∀ y, (cells y).length = sz) (h1c : ∀ y, ∀ u ∈ cells y, u.oneCell' = true)
    (hown : Own base e sz cells w v ys) (hbw : base ≤ w.heap.size) {a : Option Addr} {cap : Nat} (hs : Sl sz cells w a cap xs)
    (hlen : ys.length + xs.length ≤ maxLen) (hby : (ys.length + xs.length) * bytes ≤ 140737488355328) (ty : TypeId) :
    ∃ v' w', (Builtin.append_ #[t, t] ty #[v, .slice a xs.length cap]).run P w = .ok v' w' ∧ Own base e sz cells w' v' (ys ++ xs) ∧ Chg v.ownBlock.toList w w' ∧ (v'.ownBlock = v.ownBlock ∨ ∃ g, v'.ownBlock = some g ∧ w.heap.size ≤ g) := by
  obtain ⟨i, z, g1, g2, g3, g4, g5⟩ := he.info
  have hfl : (flat cells xs).length = xs.length * sz := flat_length hc xs
  have h1 : ∀ u ∈ flat cells xs, u.oneCell' = true := fun u hu => by
    obtain ⟨y, _, hy⟩ := List.mem_flatMap.1 hu
    exact h1c y u hy
  by_cases hn : a = none
  · have hx0 : xs = [] := by
      cases xs with
      | nil => rfl
      | cons y l => obtain ⟨b, off, h, _⟩ := hs.rec_ 0 y rfl; rw [hn] at h; cases h
    subst hx0
    have hc0 := hs.nul hn
    subst hn hc0
    have hr := run_append_owned_none (P := P) w base t ty e i sz he.ht g1 v ys.length (flat cells ys) hown
    refine ⟨v, w, hr, ?_, Chg.refl _ _, .inl rfl⟩
    rw [List.append_nil]; exact hown
  · obtain ⟨ad, rfl⟩ : ∃ ad, a = some ad := by cases a with | none => exact absurd rfl hn | some ad => exact ⟨ad, rfl⟩
    have hnews : ∀ j u, (flat cells xs)[j]? = some u → w.cell? (ad.add j) = some u := by
      intro j u hu
      have hj : j < xs.length * sz := by rw [← hfl]; exact (List.getElem?_eq_some_iff.1 hu).1
      have hq : j / sz < xs.length := Nat.div_lt_of_lt_mul (by rw [Nat.mul_comm]; exact hj)
      obtain ⟨b, off, h, hb, hcell⟩ := hs.rec_ (j / sz) xs[j / sz] (List.getElem?_eq_getElem hq)
      injection h with h
      have hm : j % sz < sz := Nat.mod_lt _ he.pos
      have hm2 : j % sz < (cells (xs[j / sz]'hq)).length := by rw [hc (xs[j / sz]'hq)]; exact hm
      obtain ⟨c, hu'⟩ : ∃ c, (cells (xs[j / sz]'hq))[j % sz]? = some c := ⟨_, List.getElem?_eq_getElem hm2⟩
      have hf := flat_at hc xs (j / sz) xs[j / sz] (List.getElem?_eq_getElem hq) _ _ hu'
      have hj2 : j / sz * sz + j % sz = j := by rw [Nat.mul_comm]; exact Nat.div_add_mod j sz
      rw [hj2, hu] at hf
      have := hcell _ _ hu'
      rw [← hf, Nat.add_assoc, hj2] at this
      rw [h, Go.WideShapes.add_plain]; exact this
    obtain ⟨v', w', hr, ho, hg, _, hv⟩ := Go.run_append_own_at (P := P) w base t ty e i z sz bytes he.ht g1 g2 g3 g4 g5 he.pos v ys.length (flat cells ys) hown ad xs.length cap (flat cells xs) hfl hnews h1 hlen hby hbw
    refine ⟨v', w', hr, ?_, (Chg.refl _ w).grown hg (fun r hr' => .inl (by rw [hr']; simp)), ?_⟩
    · unfold Own
      rw [flat_append, List.length_append]
      exact ho
    · rcases hv with hv | hv
      · exact .inl hv
      · exact .inr ⟨_, hv, Nat.le_refl _⟩

theorem wpList_append' {ops : Array Oper} {rest : List Oper} {o : Oper} {a : Act} {Q : Exit → Act → World → Prop} (he : ElemOf P t e sz bytes) {base : Nat} {v : Value} {ys xs : List α}
    (hc : ∀ y, (cells y).length = sz) (h1c : ∀ y, ∀ u ∈ cells y, u.oneCell' = true) (hgd : o.guard = none) (s x : Operand)
    (ho : o.op = .call { callee := .builtin .append, args := #[s, x], argTypes := #[t, t] })
    (hown : Own base e sz cells w v ys) (hsv : a.eval s = v) {ad : Option Addr} {cap : Nat} (hxv : a.eval x = .slice ad xs.length cap)
    (hbw : base ≤ w.heap.size) (hs : Sl sz cells w ad cap xs)
    (hlen : ys.length + xs.length ≤ maxLen) (hby : (ys.length + xs.length) * bytes ≤ 140737488355328)
    (h : ∀ v' m, Own base e sz cells (chg v.ownBlock.toList w m) v' (ys ++ xs) → (v'.ownBlock = v.ownBlock ∨ ∃ g, v'.ownBlock = some g ∧ w.heap.size ≤ g) → wpList P ops Q rest (a.put o.dst v') (chg v.ownBlock.toList w m)) :
    wpList P ops Q (o :: rest) a w := by
  obtain ⟨v', w', hr, h1, h2, h3⟩ := append_run' he hc h1c hown hbw hs hlen hby o.type
  obtain ⟨m, rfl⟩ := chg_of h2
  refine wpList_plain hgd fun K hK => ?_
  unfold Oper.wp execOp
  simp only [ho, resolve, invoke, builtin, Sem.run_bind, Sem.run_pure, Result.andThen_ok, List.map_toArray, List.map_cons, List.map_nil, hsv, hxv, hr]
  exact hK _ _ (h v' m h1 h3)

theorem zeroCells_len (c : Array Value) (n : Nat) : (Builtin.zeroCells c n).toList.length = n * c.size := by
  simp [Builtin.zeroCells, Nat.mul_comm]
theorem run_clear_rows {g cap n : Nat} {base : Nat} {xs : List α} (he : ElemOf P t e sz bytes) (hc : ∀ y, (cells y).length = sz) (hz : ∃ z, (∀ w, (zeroValue e).run P w = .ok z w) ∧ z.cells.size = sz ∧ ∀ u ∈ z.cells.toList, u.oneCell' = true)
    (hown : Own base e sz cells w (.slice (some ⟨g, 0, none⟩) n cap) xs) {i : Nat} (hi : i < xs.length) (c ty : Nat) :
    ∃ vs, (Builtin.clear_ #[t] ty #[.slice (some ⟨g, i * sz, none⟩) (xs.length - i) c]).run P w = .ok (.tuple #[]) (w.setCells g (i * sz) vs) := by
  obtain ⟨z, hz1, hz2, hz3⟩ := hz
  have hn := (Own.slice' hc hown).1
  subst hn
  refine ⟨(Builtin.zeroCells z.cells (xs.length - i)).toList, ?_⟩
  have hlen : (Builtin.zeroCells z.cells (xs.length - i)).toList.length = (xs.length - i) * sz := by rw [zeroCells_len, hz2]
  have hin : i * sz + (xs.length - i) * sz = xs.length * sz := by rw [← Nat.add_mul]; congr 1; omega
  have hst := run_storeCells_cells (P := P) g (i * sz) (Builtin.zeroCells z.cells (xs.length - i)).toList 0 w
    (fun j hj => by
      rw [hlen] at hj
      simp only [Nat.add_zero]
      have hj2 : i * sz + j < xs.length * sz := by omega
      rw [World.ownsRow.cellAt hown _ hj2, List.getElem?_eq_getElem (by rw [flat_length hc]; exact hj2)]; rfl)
    (fun j hj => by simp only [Nat.add_zero]; exact World.ownsRow.frozenAt hown _)
    (fun u hu => by
      have : u ∈ z.cells.toList := by
        simp only [Builtin.zeroCells, Array.toList_map, List.mem_map] at hu
        obtain ⟨k, hk, rfl⟩ := hu
        simp only [Array.mem_toList_iff, Array.mem_range] at hk
        have hpos : 0 < z.cells.size := by rw [hz2]; exact he.pos
        rw [getElem!_pos z.cells _ (Nat.mod_lt _ hpos)]
        exact Array.getElem_mem_toList _
      exact hz3 u this)
  simp only [Nat.add_zero] at hst
  obtain ⟨m, hm⟩ : ∃ m, xs.length - i = m + 1 := ⟨xs.length - i - 1, by omega⟩
  rw [hm] at hst ⊢
  simp [Builtin.clear_, run_underlying he.ht, hz1, hst]
theorem wpList_clear {ops : Array Oper} {rest : List Oper} {o : Oper} {a : Act} {Q : Exit → Act → World → Prop} (hgd : o.guard = none) (s : Operand) (ho : o.op = .call { callee := .builtin .clear, args := #[s], argTypes := #[t] })
    {x : Value} (hsv : a.eval s = x) {w' : World} (hr : (Builtin.clear_ #[t] o.type #[x]).run P w = .ok (.tuple #[]) w') (h : wpList P ops Q rest (a.put o.dst (.tuple #[])) w') : wpList P ops Q (o :: rest) a w := by
  refine wpList_plain hgd fun K hK => ?_
  unfold Oper.wp execOp
  simp only [ho, resolve, invoke, builtin, Sem.run_bind, Sem.run_pure, Result.andThen_ok, List.map_toArray, List.map_cons, List.map_nil, hsv, hr]
  exact hK _ _ h
end
theorem Blk.new' {w : World} {cs : List Value} {t : TypeId} {n : Nat} (h : n = w.heap.size) : Blk (w.alloc (.cells cs.toArray t)) n cs t := h ▸ Blk.new w cs t
attribute [irreducible] chg lay
theorem ovA {w W : World} (k : ∃ e, W = over w e := by (try unfold Ov); repeat (first | with_reducible exact ex_over | with_reducible exact over_self _ | with_reducible refine ex_undrew ?_ | with_reducible refine ex_into ?_ _ | with_reducible refine ex_alloc ?_ _ | with_reducible refine ex_drew ?_ | ((with_reducible refine ex_setCell ?_ ?_ _); rotate_left; (first | omega | (focus (simp; done)) | (focus (simp; omega)))) | ((with_reducible refine ex_chg ?_ _ ?_); rotate_left; (first | assumption | (exact Hid.out (by assumption)))) | exact ex_over)) : ∃ e, W = over w e := k
theorem ovB {w W0 W : World} (h : ∃ e, W0 = over w e) (k : (∃ e, W0 = over w e) → ∃ e, W = over w e := by intro hh; (try unfold Ov); repeat (first | with_reducible exact hh | with_reducible exact hh | with_reducible refine ex_undrew ?_ | with_reducible refine ex_into ?_ _ | with_reducible refine ex_alloc ?_ _ | with_reducible refine ex_drew ?_ | ((with_reducible refine ex_setCell ?_ ?_ _); rotate_left; (first | omega | (focus (simp; done)) | (focus (simp; omega)))) | ((with_reducible refine ex_chg ?_ _ ?_); rotate_left; (first | assumption | (exact Hid.out (by assumption)))) | exact ex_over)) : ∃ e, W = over w e := k h
theorem slA {α : Type} {sz : Nat} {cells : α → List Value} {w W : World} {a : Option Addr} {cap : Nat} {xs : List α} (h : Sl sz cells w a cap xs) (k : Sl sz cells w a cap xs → Sl sz cells W a cap xs := by intro hh; repeat (first | with_reducible exact hh | with_reducible refine Sl.over ?_ _ | with_reducible refine Sl.alloc ?_ _ | with_reducible refine Sl.drew ?_ | exact hh)) : Sl sz cells W a cap xs := k h
theorem ownA {α : Type} {base : Nat} {e : TypeId} {sz : Nat} {cells : α → List Value} {w W : World} {v : Value} {xs : List α} (h : Own base e sz cells w v xs) (k : Own base e sz cells w v xs → Own base e sz cells W v xs := by intro hh; repeat (first | with_reducible exact hh | ((with_reducible refine Own.set_ne ?_ ?_ _); rotate_left; (first | assumption | (focus (simp; done)) | (focus (simp [Value.ownBlock]; done)) | (focus (simp [Value.ownBlock]; omega)))) | ((with_reducible refine Own.in_some ?_ _ ?_); rotate_left; (first | assumption | (focus (simp; done)) | (focus (simp; omega)))) | ((with_reducible refine Own.in_one ?_ _ ?_); rotate_left; (first | assumption | (focus (simp [Value.ownBlock]; done)) | (focus (simp [Value.ownBlock]; omega)))) | ((with_reducible refine Own.chg ?_ (chg_chg _ _ _) ?_); rotate_left; (first | assumption | (focus (simp; done)) | (focus (simp; omega)))) | with_reducible refine Own.over ?_ _ | with_reducible refine Own.alloc ?_ _ | with_reducible refine Own.drew ?_ | exact hh)) : Own base e sz cells W v xs := k h
theorem bkA {W : World} {p : Nat} {cs : List Value} {t : TypeId} (k : Blk W p cs t := by repeat (first | with_reducible assumption | with_reducible refine Blk.alloc ?_ _ | with_reducible refine Blk.drew ?_ | with_reducible refine Blk.on ?_ _ | ((with_reducible refine Blk.chg ?_ (chg_chg _ _ _) ?_); rotate_left; (first | assumption | (focus (simp; done)) | (focus (simp; omega)))) | ((with_reducible refine Blk.set ?_ _ _)) | ((with_reducible refine Blk.set_ne ?_ ?_ _); rotate_left; (first | assumption | (focus (simp; done)) | (focus (simp; omega)))))) : Blk W p cs t := k
theorem blA {W : World} {p : Nat} {cs : List Value} {t : TypeId} (k : Blk W p cs t := by repeat (first | exact Blk.new' (by simp; done) | exact Blk.new' rfl | with_reducible assumption | with_reducible refine Blk.alloc ?_ _ | with_reducible refine Blk.drew ?_ | with_reducible refine Blk.on ?_ _ | ((with_reducible refine Blk.chg ?_ (chg_chg _ _ _) ?_); rotate_left; (first | assumption | (focus (simp; done)) | (focus (simp; omega)))))) : Blk W p cs t := k
theorem bxA {w W : World} {p : Nat} {cs0 cs : List Value} {t : TypeId} (h : Blk w p cs0 t) (k : Blk w p cs0 t → Blk W p cs t := by intro hh; repeat (first | with_reducible exact hh | with_reducible refine Blk.alloc ?_ _ | with_reducible refine Blk.drew ?_ | with_reducible refine Blk.on ?_ _ | ((with_reducible refine Blk.chg ?_ (chg_chg _ _ _) ?_); rotate_left; (first | assumption | (focus (simp; done)) | (focus (simp; omega)))) | with_reducible refine Blk.set ?_ _ _ | ((with_reducible refine Blk.set_ne ?_ ?_ _); rotate_left; (first | assumption | (focus (simp; done)) | (focus (simp; omega)))))) : Blk W p cs t := k h
end
end Go.Proofs.YtnihngljmmbenaaGreatDoor
