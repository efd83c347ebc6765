import Derived.Test.YtnihngljmmbenaaGreatDoorHB
import Derived.WideKeyRuns
import Derived.Test.YtnihngljmmbenaaGreatDoorLB
namespace Go.Proofs.YtnihngljmmbenaaGreatDoor
set_option linter.unusedVariables false
set_option linter.unusedSimpArgs false
section
open Go.RowKit

section
variable {P : Program} {κ : Type}
def MapK (w : World) (b : Nat) (enc : κ → Value) (m : List (κ × Value)) : Prop :=
  ∃ es clock, w.heap[b]? = some (.map es clock) ∧ es.toList.map (fun e => (e.key, e.val)) = (m.map fun x => (enc x.1, x.2)) ∧ (es.toList.map (·.born)).Nodup ∧ ∀ e ∈ es.toList, e.born < clock
theorem MapK.lt {w : World} {b : Nat} {enc : κ → Value} {m : List (κ × Value)} (h : MapK w b enc m) : b < w.heap.size := by
  obtain ⟨es, clock, hb, _⟩ := h
  exact (Array.getElem?_eq_some_iff.1 hb).1
theorem MapK.chg {w w' : World} {b : Nat} {enc : κ → Value} {m : List (κ × Value)} {F : List Nat} (h : MapK w b enc m) (hc : Chg F w w') (hF : b ∉ F) : MapK w' b enc m := by
  have hl := h.lt
  obtain ⟨es, clock, hb, he⟩ := h
  exact ⟨es, clock, (hc.block b hl hF).trans hb, he⟩
theorem MapK.ov {w w' : World} {b : Nat} {enc : κ → Value} {m : List (κ × Value)} (h : MapK w b enc m) (hc : ∃ e, w' = over w e) : MapK w' b enc m := MapK.chg h (Chg.of_ov hc []) (by simp)
theorem MapK.new (w : World) (enc : κ → Value) : MapK (w.alloc (.map #[] 0)) w.heap.size enc ([] : List (κ × Value)) := ⟨#[], 0, heap_alloc_new w _, rfl, by simp, by simp⟩
theorem MapK.new' {w : World} (enc : κ → Value) {n : Nat} (h : n = w.heap.size) : MapK (w.alloc (.map #[] 0)) n enc ([] : List (κ × Value)) := h ▸ MapK.new w enc
theorem MapAt.k {w : World} {b : Nat} {m : List (Nat × Value)} (h : MapK w b (fun k : Nat => Value.int .u32 (k : Nat)) m) : MapAt w b m := h
variable [DecidableEq κ]
structure KeyK (P : Program) (kt : TypeId) (enc : κ → Value) : Prop where
  chk : ∀ (em : Bool) (k : κ) (w : World), (Instr.checkKey em 10000 kt (enc k)).run P w = .ok () w
  find : ∀ (w : World) (k : κ) (es : List MapEntry) (m : List (κ × Value)), es.map (fun e => (e.key, e.val)) = m.map (fun x => (enc x.1, x.2)) → (Instr.findKey kt (enc k) es).run P w = .ok ((m.findIdx? (fun x => x.1 == k)).bind fun j => (m[j]?).map fun x => (j, x.2)) w
  stays : ∀ (k : κ) (w : World), (Instr.keyThatStays (enc k) (enc k)).run P w = .ok (enc k) w
theorem key_u32 {kt : TypeId} (ht : P.underlying kt = some (.int .u32)) : KeyK P kt (fun k : Nat => Value.int .u32 (k : Nat)) :=
  ⟨fun em k w => check_key ht em k, fun w k es m h => find_key ht k h, fun k w => by simp [Instr.keyThatStays, Instr.sameBits]⟩
def kGet (m : List (κ × Value)) (k : κ) : Option Value := (m.findIdx? (fun x => x.1 == k)).bind fun j => (m[j]?).map (·.2)
def kPut (m : List (κ × Value)) (k : κ) (v : Value) : List (κ × Value) := match m.findIdx? (fun x => x.1 == k) with
  | some j => m.set j (k, v)
  | none => m ++ [(k, v)]
theorem kget_nil (k : κ) : kGet ([] : List (κ × Value)) k = none := rfl
theorem kget_cons (x : κ × Value) (m : List (κ × Value)) (k : κ) : kGet (x :: m) k = if x.1 = k then some x.2 else kGet m k := by
  unfold kGet
  by_cases h : x.1 = k
  · simp [List.findIdx?_cons, h]
  · have e : (x.1 == k) = false := by simpa using h
    rw [List.findIdx?_cons, e]
    simp only [h, if_false]
    cases hq : m.findIdx? (fun x => x.1 == k) with
    | none => simp
    | some j => simp
theorem kget_iff {k : κ} : ∀ {m : List (κ × Value)}, kGet m k = none ↔ ∀ x ∈ m, x.1 ≠ k
  | [] => by simp [kget_nil]
  | x :: m => by
    rw [kget_cons]
    have ih := kget_iff (k := k) (m := m)
    by_cases h : x.1 = k
    · rw [if_pos h]
      exact ⟨fun h1 => (by cases h1), fun h1 => absurd h (h1 x (by simp))⟩
    · rw [if_neg h, ih]
      exact ⟨fun h1 y hy => by rcases List.mem_cons.1 hy with rfl | h2; exact h; exact h1 y h2, fun h1 y hy => h1 y (List.mem_cons_of_mem _ hy)⟩
theorem kput_nil (k : κ) (v : Value) : kPut [] k v = [(k, v)] := rfl
theorem kput_cons (x : κ × Value) (m : List (κ × Value)) (k : κ) (v : Value) : kPut (x :: m) k v = if x.1 = k then (k, v) :: m else x :: kPut m k v := by
  unfold kPut
  by_cases h : x.1 = k
  · simp [List.findIdx?_cons, h]
  · have e : (x.1 == k) = false := by simpa using h
    rw [List.findIdx?_cons, e]
    simp only [h, if_false]
    cases hq : m.findIdx? (fun x => x.1 == k) with
    | none => simp
    | some j => simp
theorem kget_put : ∀ (m : List (κ × Value)) (k j : κ) (v : Value), kGet (kPut m k v) j = if k = j then some v else kGet m j
  | [], k, j, v => by rw [kput_nil, kget_cons, kget_nil]
  | x :: m, k, j, v => by
    rw [kput_cons]
    by_cases h : x.1 = k
    · rw [if_pos h, kget_cons, kget_cons]
      by_cases h2 : k = j
      · simp [h2]
      · have h3 : ¬ x.1 = j := fun e => h2 (h.symm.trans e)
        simp [h2, h3]
    · rw [if_neg h, kget_cons, kget_cons, kget_put m k j v]
      by_cases h2 : x.1 = j
      · have h3 : ¬ k = j := fun e => h (h2.trans e.symm)
        simp [h2, h3]
      · simp [h2]
theorem kput_keys (m : List (κ × Value)) (k : κ) (v : Value) : ∀ y ∈ (kPut m k v).map (·.1), y = k ∨ y ∈ m.map (·.1) := by
  induction m with
  | nil => intro y hy; rw [kput_nil] at hy; simp at hy; exact .inl hy
  | cons x m ih =>
    intro y hy
    rw [kput_cons] at hy
    split at hy
    · simp at hy ⊢
      rcases hy with h | h
      · exact .inl h
      · exact .inr (.inr h)
    · simp only [List.map_cons, List.mem_cons] at hy ⊢
      rcases hy with h | h
      · exact .inr (.inl h)
      · rcases ih y h with h1 | h1
        · exact .inl h1
        · exact .inr (.inr h1)
theorem kput_nodup {m : List (κ × Value)} (h : (m.map (·.1)).Nodup) (k : κ) (v : Value) : ((kPut m k v).map (·.1)).Nodup := by
  induction m with
  | nil => rw [kput_nil]; simp
  | cons x m ih =>
    rw [List.map_cons, List.nodup_cons] at h
    rw [kput_cons]
    split
    · rename_i hx
      rw [List.map_cons, List.nodup_cons]
      exact ⟨by simpa [← hx] using h.1, h.2⟩
    · rename_i hx
      rw [List.map_cons, List.nodup_cons]
      refine ⟨fun hm => ?_, ih h.2⟩
      rcases kput_keys m k v _ hm with h1 | h1
      · exact hx h1
      · exact h.1 h1
theorem k_lookup {t kt e : TypeId} {enc : κ → Value} (K : KeyK P kt enc) (ht : P.underlying t = some (.map kt e)) {w : World} {z : Value} (hz : (zeroValue e).run P w = .ok z w) {b : Nat} {m : List (κ × Value)} (h : MapK w b enc m) (key : κ) (c : Bool) :
    (Instr.lookup t (.map (some b)) (enc key) c).run P w = .ok (if c then .tuple #[(kGet m key).getD z, .bool (kGet m key).isSome] else (kGet m key).getD z) w := by
  obtain ⟨es, clock, hb, he, _⟩ := h
  have hf := K.find w key _ m he
  have hc := K.chk es.isEmpty key w
  unfold kGet
  unfold Instr.lookup
  simp only [Sem.run_bind, run_underlying ht, Result.andThen_ok, MapKept.run_getObj_map hb, Sem.run_pure, hc, hf]
  cases hq : m.findIdx? (fun x => x.1 == key) with
  | none => cases c <;> simp [hz, Result.andThen]
  | some j =>
    have hj := (List.findIdx?_eq_some_iff_findIdx_eq.1 hq).1
    cases c <;> simp [List.getElem?_eq_getElem hj, Result.andThen]
theorem wpList_klookup {w : World} {ops : Array Oper} {rest : List Oper} {o : Oper} {a : Act} {Q : Exit → Act → World → Prop} {enc : κ → Value}
    (hg : o.guard = none) (m x : Operand) (t : TypeId) (c : Bool) (hop : o.op = Op.lookup t m x c) (kt e : TypeId) (K : KeyK P kt enc) (ht : P.underlying t = some (.map kt e)) (z : Value) (hz : (zeroValue e).run P w = .ok z w) (b : Nat) (l : List (κ × Value))
    (hm : a.eval m = .map (some b)) (h : MapK w b enc l) (key : κ) (hx : a.eval x = enc key) (v : Value) (hv : (if c then .tuple #[(kGet l key).getD z, .bool (kGet l key).isSome] else (kGet l key).getD z) = v) (hK : wpList P ops Q rest (a.put o.dst v) w) : wpList P ops Q (o :: rest) a w := by
  refine wpList_plain hg fun K' hK' => ?_
  have hrun := k_lookup K ht hz h key c
  rw [hv] at hrun
  unfold Oper.wp
  simp [execOp, hop, hm, hx, hrun, Result.andThen]
  exact hK' _ _ hK
theorem k_update {t kt e : TypeId} {enc : κ → Value} (K : KeyK P kt enc) (ht : P.underlying t = some (.map kt e)) {w : World} {b : Nat} {m : List (κ × Value)} (h : MapK w b enc m) (key : κ) (val : Value) :
    ∃ w', (Instr.mapUpdate t (.map (some b)) (enc key) val).run P w = .ok () w' ∧ MapK w' b enc (kPut m key val) ∧ Chg [b] w w' := by
  obtain ⟨es, clock, hb, he, hnd, hbo⟩ := h
  have hf := K.find w key _ m he
  have hc := K.chk false key w
  have hl := (Array.getElem?_eq_some_iff.1 hb).1
  unfold kPut
  cases hq : m.findIdx? (fun x => x.1 == key) with
  | none =>
    rw [hq] at hf
    refine ⟨{ w with heap := w.heap.setIfInBounds b (.map (es.push { key := enc key, val := val, born := clock }) (clock + 1)) }, ?_, ⟨es.push { key := enc key, val := val, born := clock }, clock + 1, ?_, ?_, ?_, ?_⟩, ?_⟩
    · unfold Instr.mapUpdate
      simp only [Sem.run_bind, run_underlying ht, Result.andThen_ok, MapKept.run_getObj_map hb, Sem.run_pure, hc, hf, Option.bind_none]
      exact MapKept.run_setObj_map _ hb
    · simp [Array.getElem?_setIfInBounds, hl]
    · simp [he]
    · rw [Array.toList_push, List.map_append]
      refine List.nodup_append.2 ⟨hnd, by simp, fun a ha b hb => ?_⟩
      obtain ⟨e, he1, rfl⟩ := List.mem_map.1 ha
      simp at hb
      subst hb
      have := hbo e he1
      omega
    · intro e he1
      rw [Array.toList_push] at he1
      rcases List.mem_append.1 he1 with h1 | h1
      · have := hbo e h1; omega
      · simp at h1; subst h1; simp
    · exact ⟨rfl, rfl, rfl, by simp, fun i hi hn => by simp only [Array.getElem?_setIfInBounds]; rw [if_neg]; intro h; subst h; exact hn (by simp)⟩
  | some j =>
    rw [hq] at hf
    obtain ⟨hj, hj2⟩ := List.findIdx?_eq_some_iff_findIdx_eq.1 hq
    have hkey : m[j].1 = key := by
      have := (List.findIdx?_eq_some_iff_getElem.1 hq).2.1
      simpa using this
    simp only [Option.bind_some, List.getElem?_eq_getElem hj, Option.map_some] at hf
    have hes : es.toList.length = m.length := by simpa using congrArg List.length he
    have hje : j < es.size := by have := hes; simp at this; omega
    have hent : es[j].key = enc key := by
      have h1 := congrArg (fun l => l[j]?) he
      simp only [List.getElem?_map, List.getElem?_eq_getElem hj, Option.map_some] at h1
      rw [List.getElem?_eq_getElem (by simpa using hje)] at h1
      simp only [Option.map_some, Option.some.injEq, Prod.mk.injEq, Array.getElem_toList] at h1
      rw [h1.1, hkey]
    have hst : (Instr.keyThatStays es[j].key (enc key)).run P w = .ok (enc key) w := by rw [hent]; exact K.stays key w
    refine ⟨{ w with heap := w.heap.setIfInBounds b (.map (es.modify j fun e => { e with key := enc key, val := val }) clock) }, ?_, ⟨(es.modify j fun e => { e with key := enc key, val := val }), clock, ?_, ?_, ?_, ?_⟩, ?_⟩
    · unfold Instr.mapUpdate
      simp only [Sem.run_bind, run_underlying ht, Result.andThen_ok, MapKept.run_getObj_map hb, Sem.run_pure, hc, hf]
      simp only [Array.getElem?_eq_getElem hje, Option.map_some, Option.getD_some, Sem.run_bind, hst, Result.andThen_ok]
      exact MapKept.run_setObj_map _ hb
    · simp [Array.getElem?_setIfInBounds, hl]
    · rw [List.map_set, ← he]
      apply List.ext_getElem?
      intro i
      simp only [List.getElem?_map, Array.getElem?_toList, Array.getElem?_modify, List.getElem?_set]
      by_cases hi : j = i
      · subst hi
        simp [Array.getElem?_eq_getElem hje, hje]
      · simp [hi]
    · have hbe : ((es.modify j fun e => { e with key := enc key, val := val }).toList.map (·.born)) = es.toList.map (·.born) := by
        apply List.ext_getElem?
        intro i
        simp only [List.getElem?_map, Array.getElem?_toList, Array.getElem?_modify]
        by_cases hi : j = i
        · subst hi
          simp [Array.getElem?_eq_getElem hje]
        · simp [hi]
      rw [hbe]; exact hnd
    · intro e he1
      obtain ⟨i, hi, rfl⟩ := List.getElem_of_mem he1
      simp only [Array.length_toList, Array.size_modify] at hi
      simp only [Array.getElem_toList, Array.getElem_modify]
      have h9 := hbo es[i] (by simp)
      split
      · exact h9
      · exact h9
    · exact ⟨rfl, rfl, rfl, by simp, fun i hi hn => by simp only [Array.getElem?_setIfInBounds]; rw [if_neg]; intro h; subst h; exact hn (by simp)⟩
theorem wpList_kupdate {w : World} {ops : Array Oper} {rest : List Oper} {o : Oper} {a : Act} {Q : Exit → Act → World → Prop} {enc : κ → Value}
    (hg : o.guard = none) (m x v : Operand) (t : TypeId) (hop : o.op = Op.mapUpdate t m x v) (kt e : TypeId) (K : KeyK P kt enc) (ht : P.underlying t = some (.map kt e)) (b : Nat) (l : List (κ × Value)) (key : κ) (val : Value)
    (hm : a.eval m = .map (some b)) (hx : a.eval x = enc key) (hv : a.eval v = val) (h : MapK w b enc l)
    (hK : ∀ mt, MapK (chg [b] w mt) b enc (kPut l key val) → wpList P ops Q rest (a.put o.dst undef) (chg [b] w mt)) : wpList P ops Q (o :: rest) a w := by
  refine wpList_plain hg fun K' hK' => ?_
  obtain ⟨w', hrun, h1, h2⟩ := k_update K ht h key val
  obtain ⟨mt, rfl⟩ := chg_of h2
  unfold Oper.wp
  simp [execOp, hop, hm, hx, hv, hrun, Result.andThen]
  exact hK' _ _ (hK mt h1)
end
end
section
open Go.RowKit

structure Lf where
  s : Nat
  c : Nat
  n : Nat
  m : Nat
  deriving DecidableEq
instance : Inhabited Lf := ⟨⟨0, 0, 0, 0⟩⟩
def Lf.wf (x : Lf) : Prop := x.s < 4294967296 ∧ x.c < 4294967296 ∧ x.n < 4294967296 ∧ x.m < 18446744073709551616
def Lf.cs (x : Lf) : List Value := [.int .u32 (x.s : Nat), .int .u32 (x.c : Nat), .int .u32 (x.n : Nat), .int .u64 (x.m : Nat)]
def Lf.v (x : Lf) : Value := .agg #[.int .u32 (x.s : Nat), .int .u32 (x.c : Nat), .int .u32 (x.n : Nat), .int .u64 (x.m : Nat)]
theorem Lf.cs_len (x : Lf) : x.cs.length = 4 := rfl
theorem Lf.cs_one (x : Lf) : ∀ u ∈ x.cs, u.oneCell' = true := by intro u hu; simp [Lf.cs] at hu; rcases hu with rfl | rfl | rfl | rfl <;> rfl
def fnd (l : List Lf) (s c : Nat) : Option Lf := l.find? (fun x => x.s == s && x.c == c)
def un (a b : List Lf) (s c : Nat) : Bool := match fnd a s c, fnd b s c with
  | some p, some q => p != q
  | _, _ => true
def updM (o : Option Nat) (c : Nat) : Option Nat := match o with
  | none => some c
  | some d => if c < d then some c else some d
def hit (a b : List Lf) (x : Lf) (s : Nat) : Bool := x.s == s && un a b x.s x.c
def stepU (a b : List Lf) (s : Nat) (o : Option Nat) (x : Lf) : Option Nat := if hit a b x s then updM o x.c else o
def minU (a b : List Lf) (l : List Lf) (s : Nat) : Option Nat := l.foldl (stepU a b s) none
def idsU (a b : List Lf) : List Nat := srtN ((((a ++ b).map (·.s)).eraseDups).filter (fun s => (minU a b (a ++ b) s).isSome))
def cntU (a : List Lf) (s c : Nat) : Nat := ((fnd a s c).map (·.n)).getD 0
def apL (a b : List Lf) : List Lf := (idsU a b).map fun s => ⟨s, (minU a b (a ++ b) s).getD 0, cntU a s ((minU a b (a ++ b) s).getD 0), 0⟩
theorem srtN_sorted (l : List Nat) : (srtN l).Pairwise (· ≤ ·) := by
  have := List.pairwise_mergeSort (le := fun x y : Nat => decide (x ≤ y)) (fun a b c h1 h2 => by simp at *; omega) (fun a b => by simp; omega) l
  exact this.imp (fun h => by simpa using h)
theorem sort_uniq : ∀ {l m : List Nat}, l.Pairwise (· < ·) → m.Pairwise (· < ·) → (∀ s, s ∈ l ↔ s ∈ m) → l = m
  | [], [], _, _, _ => rfl
  | [], y :: m, _, _, h => by have := (h y).2 (by simp); simp at this
  | x :: l, [], _, _, h => by have := (h x).1 (by simp); simp at this
  | x :: l, y :: m, hl, hm, h => by
    have h1 := List.pairwise_cons.1 hl
    have h2 := List.pairwise_cons.1 hm
    have e : x = y := by
      rcases List.mem_cons.1 ((h x).1 (by simp)) with e | e
      · exact e
      · rcases List.mem_cons.1 ((h y).2 (by simp)) with e2 | e2
        · exact e2.symm
        · have := h2.1 x e; have := h1.1 y e2; omega
    subst e
    refine congrArg (x :: ·) (sort_uniq h1.2 h2.2 (fun s => ⟨fun hs => ?_, fun hs => ?_⟩))
    · rcases List.mem_cons.1 ((h s).1 (by simp [hs])) with e | e
      · have := h1.1 s hs; omega
      · exact e
    · rcases List.mem_cons.1 ((h s).2 (by simp [hs])) with e | e
      · have := h2.1 s hs; omega
      · exact e
end
end Go.Proofs.YtnihngljmmbenaaGreatDoor
