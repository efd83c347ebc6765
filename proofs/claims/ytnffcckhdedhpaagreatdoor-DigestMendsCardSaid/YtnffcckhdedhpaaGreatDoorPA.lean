import Derived.Test.YtnffcckhdedhpaaGreatDoorHB
import Derived.WideKeyRuns
import Derived.Test.YtnffcckhdedhpaaGreatDoorLB
import Derived.Test.YtnffcckhdedhpaaGreatDoorHD
import Derived.Test.YtnffcckhdedhpaaGreatDoorHC
import Derived.Test.YtnffcckhdedhpaaGreatDoorGB
import Derived.WideKeyEntry
namespace Go.Proofs.YtnffcckhdedhpaaGreatDoor
set_option linter.unusedVariables false
set_option linter.unusedSimpArgs false
set_option maxRecDepth 100000
set_option maxHeartbeats 2000000
section
open Go.RowKit
section
variable {P : Program} {κ : Type}
def MapK (w : World) (b : Nat) (enc : κ → Value) (m : List (κ × Value)) : Prop :=
 ∃ es clock, w.heap[b]? = some (.map es clock) ∧ es.toList.map (fun e => (e.key, e.val)) = (m.map fun x => (enc x.1, x.2)) ∧ (es.toList.map (·.born)).Nodup ∧ ∀ e ∈ es.toList, e.born < clock
theorem MapK.lt {w : World} {b : Nat} {enc : κ → Value} {m : List (κ × Value)} (h : MapK w b enc m) : b < w.heap.size := by
 obtain ⟨es, clock, hb, _⟩ := h; exact (Array.getElem?_eq_some_iff.1 hb).1
theorem MapK.chg {w w' : World} {b : Nat} {enc : κ → Value} {m : List (κ × Value)} {F : List Nat} (h : MapK w b enc m) (hc : Chg F w w') (hF : b ∉ F) : MapK w' b enc m := by
 have hl := h.lt; obtain ⟨es, clock, hb, he⟩ := h; exact ⟨es, clock, (hc.block b hl hF).trans hb, he⟩
theorem MapK.ov {w w' : World} {b : Nat} {enc : κ → Value} {m : List (κ × Value)} (h : MapK w b enc m) (hc : ∃ e, w' = over w e) : MapK w' b enc m := MapK.chg h (Chg.of_ov hc []) (by simp)
theorem MapK.new (w : World) (enc : κ → Value) : MapK (w.alloc (.map #[] 0)) w.heap.size enc ([] : List (κ × Value)) := ⟨#[], 0, heap_alloc_new w _, rfl, by simp, by simp⟩
theorem MapK.new' {w : World} (enc : κ → Value) {n : Nat} (h : n = w.heap.size) : MapK (w.alloc (.map #[] 0)) n enc ([] : List (κ × Value)) := h ▸ MapK.new w enc
theorem MapAt.k {w : World} {b : Nat} {m : List (Nat × Value)} (h : MapK w b (fun k : Nat => Value.int .u32 (k : Nat)) m) : MapAt w b m := h
variable [DecidableEq κ]
structure KeyK (P : Program) (kt : TypeId) (enc : κ → Value) : Prop where
 chk : ∀ (em : Bool) (k : κ) (w : World), (Instr.checkKey em 10000 kt (enc k)).run P w = .ok () w
 find : ∀ (w : World) (k : κ) (es : List MapEntry) (m : List (κ × Value)), es.map (fun e => (e.key, e.val)) = m.map (fun x => (enc x.1, x.2)) → (Instr.findKey kt (enc k) es).run P w = .ok ((m.findIdx? (fun x => x.1 == k)).bind fun j => (m[j]?).map fun x => (j, x.2)) w
 stays : ∀ (k : κ) (w : World), (Instr.keyThatStays (enc k) (enc k)).run P w = .ok (enc k) w
theorem key_u32 {kt : TypeId} (ht : P.underlying kt = some (.int .u32)) : KeyK P kt (fun k : Nat => Value.int .u32 (k : Nat)) :=
 ⟨fun em k w => check_key ht em k, fun w k es m h => find_key ht k h, fun k w => by simp [Instr.keyThatStays, Instr.sameBits]⟩
theorem key_ask {kt : TypeId} {enc : κ → Value} (hw : (match P.underlying kt with | some (.array _ _) | some (.struct _) => true | _ => false) = true)
    (chk : ∀ (em : Bool) (k : κ) (w : World), (Instr.checkKey em 10000 kt (enc k)).run P w = .ok () w)
    (eqv : ∀ (a b : κ) (w : World), (Op.equal kt (enc a) (enc b)).run P w = .ok (b == a) w)
    (sb : ∀ k : κ, Instr.sameBits 10000 (enc k) (enc k) = true) : KeyK P kt enc := by
  refine ⟨chk, fun w k es m h => ?_, fun k w => by simp [Instr.keyThatStays, sb]⟩; rw [run_findKey_eq w hw]; have : ∀ (es : List MapEntry) (m : List (κ × Value)) (i : Nat), es.map (fun e => (e.key, e.val)) = m.map (fun x => (enc x.1, x.2)) → (Instr.findAsking kt (enc k) es i).run P w = .ok ((m.findIdx? (fun x => x.1 == k)).bind fun j => (m[j]?).map fun x => (i + j, x.2)) w := by
   intro es
   induction es with
   | nil => intro m i h; cases m with
    | nil => simp [Instr.findAsking]
    | cons x m => simp at h
   | cons e es ih =>
    intro m i h; cases m with
    | nil => simp at h
    | cons x m =>
     simp only [List.map_cons, List.cons.injEq, Prod.mk.injEq] at h; obtain ⟨⟨h1, h2⟩, h3⟩ := h; have ih := ih m (i + 1) h3; unfold Instr.findAsking; rw [h1]; simp only [Sem.run_bind, eqv, Result.andThen_ok]; by_cases hx : x.1 = k
     · simp [List.findIdx?_cons, hx, h2]
     · have e2 : (x.1 == k) = false := by simpa using hx
       rw [e2]; simp only [Bool.false_eq_true, if_false, ih, List.findIdx?_cons, e2]; cases hq : m.findIdx? (fun x => x.1 == k) with
       | none => simp
       | some j => simp [Nat.add_assoc, Nat.add_comm 1 j]
  have h2 := this es m 0 h
  simpa using h2
def kGet (m : List (κ × Value)) (k : κ) : Option Value := (m.findIdx? (fun x => x.1 == k)).bind fun j => (m[j]?).map (·.2)
def kPut (m : List (κ × Value)) (k : κ) (v : Value) : List (κ × Value) := match m.findIdx? (fun x => x.1 == k) with
 | some j => m.set j (k, v)
 | none => m ++ [(k, v)]
theorem kget_nil (k : κ) : kGet ([] : List (κ × Value)) k = none := rfl
theorem kget_cons (x : κ × Value) (m : List (κ × Value)) (k : κ) : kGet (x :: m) k = if x.1 = k then some x.2 else kGet m k := by
 unfold kGet; by_cases h : x.1 = k
 · simp [List.findIdx?_cons, h]
 · have e : (x.1 == k) = false := by simpa using h
   rw [List.findIdx?_cons, e]; simp only [h, if_false]; cases hq : m.findIdx? (fun x => x.1 == k) with
   | none => simp
   | some j => simp
theorem kget_iff {k : κ} : ∀ {m : List (κ × Value)}, kGet m k = none ↔ ∀ x ∈ m, x.1 ≠ k
  | [] => by simp [kget_nil]
  | x :: m => by
   rw [kget_cons]; have ih := kget_iff (k := k) (m := m); by_cases h : x.1 = k
   · rw [if_pos h]; exact ⟨fun h1 => (by cases h1), fun h1 => absurd h (h1 x (by simp))⟩
   · rw [if_neg h, ih]; exact ⟨fun h1 y hy => by rcases List.mem_cons.1 hy with rfl | h2; exact h; exact h1 y h2, fun h1 y hy => h1 y (List.mem_cons_of_mem _ hy)⟩
theorem kput_nil (k : κ) (v : Value) : kPut [] k v = [(k, v)] := rfl
theorem kput_cons (x : κ × Value) (m : List (κ × Value)) (k : κ) (v : Value) : kPut (x :: m) k v = if x.1 = k then (k, v) :: m else x :: kPut m k v := by
 unfold kPut; by_cases h : x.1 = k
 · simp [List.findIdx?_cons, h]
 · have e : (x.1 == k) = false := by simpa using h
   rw [List.findIdx?_cons, e]; simp only [h, if_false]; cases hq : m.findIdx? (fun x => x.1 == k) with
   | none => simp
   | some j => simp
theorem kget_put : ∀ (m : List (κ × Value)) (k j : κ) (v : Value), kGet (kPut m k v) j = if k = j then some v else kGet m j
  | [], k, j, v => by rw [kput_nil, kget_cons, kget_nil]
  | x :: m, k, j, v => by
   rw [kput_cons]; by_cases h : x.1 = k
   · rw [if_pos h, kget_cons, kget_cons]; by_cases h2 : k = j
     · simp [h2]
     · have h3 : ¬ x.1 = j := fun e => h2 (h.symm.trans e); simp [h2, h3]
   · rw [if_neg h, kget_cons, kget_cons, kget_put m k j v]; by_cases h2 : x.1 = j
     · have h3 : ¬ k = j := fun e => h (h2.trans e.symm); simp [h2, h3]
     · simp [h2]
theorem kput_len (m : List (κ × Value)) (k : κ) (v : Value) : (kPut m k v).length ≤ m.length + 1 := by
 unfold kPut; split <;> simp
theorem kput_keys (m : List (κ × Value)) (k : κ) (v : Value) : ∀ y ∈ (kPut m k v).map (·.1), y = k ∨ y ∈ m.map (·.1) := by
 induction m with
 | nil => intro y hy; rw [kput_nil] at hy; simp at hy; exact .inl hy
 | cons x m ih =>
  intro y hy; rw [kput_cons] at hy; split at hy
  · simp at hy ⊢; rcases hy with h | h
    · exact .inl h
    · exact .inr (.inr h)
  · simp only [List.map_cons, List.mem_cons] at hy ⊢; rcases hy with h | h
    · exact .inr (.inl h)
    · rcases ih y h with h1 | h1
      · exact .inl h1
      · exact .inr (.inr h1)
theorem kput_nodup {m : List (κ × Value)} (h : (m.map (·.1)).Nodup) (k : κ) (v : Value) : ((kPut m k v).map (·.1)).Nodup := by
 induction m with
 | nil => rw [kput_nil]; simp
 | cons x m ih =>
  rw [List.map_cons, List.nodup_cons] at h; rw [kput_cons]; split
  · rename_i hx
    rw [List.map_cons, List.nodup_cons]; exact ⟨by simpa [← hx] using h.1, h.2⟩
  · rename_i hx
    rw [List.map_cons, List.nodup_cons]; refine ⟨fun hm => ?_, ih h.2⟩; rcases kput_keys m k v _ hm with h1 | h1
    · exact hx h1
    · exact h.1 h1
theorem k_lookup {t kt e : TypeId} {enc : κ → Value} (K : KeyK P kt enc) (ht : P.underlying t = some (.map kt e)) {w : World} {z : Value} (hz : (zeroValue e).run P w = .ok z w) {b : Nat} {m : List (κ × Value)} (h : MapK w b enc m) (key : κ) (c : Bool) :
    (Instr.lookup t (.map (some b)) (enc key) c).run P w = .ok (if c then .tuple #[(kGet m key).getD z, .bool (kGet m key).isSome] else (kGet m key).getD z) w := by
  obtain ⟨es, clock, hb, he, _⟩ := h; have hf := K.find w key _ m he; have hc := K.chk es.isEmpty key w; unfold kGet; unfold Instr.lookup; simp only [Sem.run_bind, run_underlying ht, Result.andThen_ok, MapKept.run_getObj_map hb, Sem.run_pure, hc, hf]; cases hq : m.findIdx? (fun x => x.1 == key) with
  | none => cases c <;> simp [hz, Result.andThen]
  | some j =>
   have hj := (List.findIdx?_eq_some_iff_findIdx_eq.1 hq).1; cases c <;> simp [List.getElem?_eq_getElem hj, Result.andThen]
theorem wpList_klookup {w : World} {ops : Array Oper} {rest : List Oper} {o : Oper} {a : Act} {Q : Exit → Act → World → Prop} {enc : κ → Value}
    (hg : o.guard = none) (m x : Operand) (t : TypeId) (c : Bool) (hop : o.op = Op.lookup t m x c) (kt e : TypeId) (K : KeyK P kt enc) (ht : P.underlying t = some (.map kt e)) (z : Value) (hz : (zeroValue e).run P w = .ok z w) (b : Nat) (l : List (κ × Value))
    (hm : a.eval m = .map (some b)) (h : MapK w b enc l) (key : κ) (hx : a.eval x = enc key) (v : Value) (hv : (if c then .tuple #[(kGet l key).getD z, .bool (kGet l key).isSome] else (kGet l key).getD z) = v) (hK : wpList P ops Q rest (a.put o.dst v) w) : wpList P ops Q (o :: rest) a w := by
  refine wpList_plain hg fun K' hK' => ?_; have hrun := k_lookup K ht hz h key c; rw [hv] at hrun; unfold Oper.wp; simp [execOp, hop, hm, hx, hrun, Result.andThen]; exact hK' _ _ hK
theorem k_update {t kt e : TypeId} {enc : κ → Value} (K : KeyK P kt enc) (ht : P.underlying t = some (.map kt e)) {w : World} {b : Nat} {m : List (κ × Value)} (h : MapK w b enc m) (key : κ) (val : Value) :
    ∃ w', (Instr.mapUpdate t (.map (some b)) (enc key) val).run P w = .ok () w' ∧ MapK w' b enc (kPut m key val) ∧ Chg [b] w w' := by
  obtain ⟨es, clock, hb, he, hnd, hbo⟩ := h; have hf := K.find w key _ m he; have hc := K.chk false key w; have hl := (Array.getElem?_eq_some_iff.1 hb).1; unfold kPut; cases hq : m.findIdx? (fun x => x.1 == key) with
  | none =>
   rw [hq] at hf; refine ⟨{ w with heap := w.heap.setIfInBounds b (.map (es.push { key := enc key, val := val, born := clock }) (clock + 1)) }, ?_, ⟨es.push { key := enc key, val := val, born := clock }, clock + 1, ?_, ?_, ?_, ?_⟩, ?_⟩
   · unfold Instr.mapUpdate; simp only [Sem.run_bind, run_underlying ht, Result.andThen_ok, MapKept.run_getObj_map hb, Sem.run_pure, hc, hf, Option.bind_none]; exact MapKept.run_setObj_map _ hb
   · simp [Array.getElem?_setIfInBounds, hl]
   · simp [he]
   · rw [Array.toList_push, List.map_append]; refine List.nodup_append.2 ⟨hnd, by simp, fun a ha b hb => ?_⟩; obtain ⟨e, he1, rfl⟩ := List.mem_map.1 ha; simp at hb; subst hb; have := hbo e he1; omega
   · intro e he1; rw [Array.toList_push] at he1; rcases List.mem_append.1 he1 with h1 | h1
     · have := hbo e h1; omega
     · simp at h1; subst h1; simp
   · exact ⟨rfl, rfl, rfl, by simp, fun i hi hn => by simp only [Array.getElem?_setIfInBounds]; rw [if_neg]; intro h; subst h; exact hn (by simp)⟩
  | some j =>
   rw [hq] at hf; obtain ⟨hj, hj2⟩ := List.findIdx?_eq_some_iff_findIdx_eq.1 hq; have hkey : m[j].1 = key := by
    have := (List.findIdx?_eq_some_iff_getElem.1 hq).2.1
    simpa using this
   simp only [Option.bind_some, List.getElem?_eq_getElem hj, Option.map_some] at hf; have hes : es.toList.length = m.length := by simpa using congrArg List.length he
   have hje : j < es.size := by have := hes; simp at this; omega
   have hent : es[j].key = enc key := by
    have h1 := congrArg (fun l => l[j]?) he; simp only [List.getElem?_map, List.getElem?_eq_getElem hj, Option.map_some] at h1; rw [List.getElem?_eq_getElem (by simpa using hje)] at h1; simp only [Option.map_some, Option.some.injEq, Prod.mk.injEq, Array.getElem_toList] at h1; rw [h1.1, hkey]
   have hst : (Instr.keyThatStays es[j].key (enc key)).run P w = .ok (enc key) w := by rw [hent]; exact K.stays key w
   refine ⟨{ w with heap := w.heap.setIfInBounds b (.map (es.modify j fun e => { e with key := enc key, val := val }) clock) }, ?_, ⟨(es.modify j fun e => { e with key := enc key, val := val }), clock, ?_, ?_, ?_, ?_⟩, ?_⟩
   · unfold Instr.mapUpdate; simp only [Sem.run_bind, run_underlying ht, Result.andThen_ok, MapKept.run_getObj_map hb, Sem.run_pure, hc, hf]; simp only [Array.getElem?_eq_getElem hje, Option.map_some, Option.getD_some, Sem.run_bind, hst, Result.andThen_ok]; exact MapKept.run_setObj_map _ hb
   · simp [Array.getElem?_setIfInBounds, hl]
   · rw [List.map_set, ← he]; apply List.ext_getElem?; intro i; simp only [List.getElem?_map, Array.getElem?_toList, Array.getElem?_modify, List.getElem?_set]; by_cases hi : j = i
     · subst hi; simp [Array.getElem?_eq_getElem hje, hje]
     · simp [hi]
   · have hbe : ((es.modify j fun e => { e with key := enc key, val := val }).toList.map (·.born)) = es.toList.map (·.born) := by
      apply List.ext_getElem?; intro i; simp only [List.getElem?_map, Array.getElem?_toList, Array.getElem?_modify]; by_cases hi : j = i
      · subst hi; simp [Array.getElem?_eq_getElem hje]
      · simp [hi]
     rw [hbe]; exact hnd
   · intro e he1; obtain ⟨i, hi, rfl⟩ := List.getElem_of_mem he1; simp only [Array.length_toList, Array.size_modify] at hi; simp only [Array.getElem_toList, Array.getElem_modify]; have h9 := hbo es[i] (by simp); split
     · exact h9
     · exact h9
   · exact ⟨rfl, rfl, rfl, by simp, fun i hi hn => by simp only [Array.getElem?_setIfInBounds]; rw [if_neg]; intro h; subst h; exact hn (by simp)⟩
theorem wpList_kupdate {w : World} {ops : Array Oper} {rest : List Oper} {o : Oper} {a : Act} {Q : Exit → Act → World → Prop} {enc : κ → Value}
    (hg : o.guard = none) (m x v : Operand) (t : TypeId) (hop : o.op = Op.mapUpdate t m x v) (kt e : TypeId) (K : KeyK P kt enc) (ht : P.underlying t = some (.map kt e)) (b : Nat) (l : List (κ × Value)) (key : κ) (val : Value)
    (hm : a.eval m = .map (some b)) (hx : a.eval x = enc key) (hv : a.eval v = val) (h : MapK w b enc l)
    (hK : ∀ mt, MapK (chg [b] w mt) b enc (kPut l key val) → wpList P ops Q rest (a.put o.dst undef) (chg [b] w mt)) : wpList P ops Q (o :: rest) a w := by
  refine wpList_plain hg fun K' hK' => ?_; obtain ⟨w', hrun, h1, h2⟩ := k_update K ht h key val; obtain ⟨mt, rfl⟩ := chg_of h2; unfold Oper.wp; simp [execOp, hop, hm, hx, hv, hrun, Result.andThen]; exact hK' _ _ (hK mt h1)
end
end
section
open Go.RowKit
structure Lf where
 s : Nat
 c : Nat
 n : Nat
 m : Nat
 deriving DecidableEq
instance : Inhabited Lf := ⟨⟨0, 0, 0, 0⟩⟩
def Lf.wf (x : Lf) : Prop := x.s < 4294967296 ∧ x.c < 4294967296 ∧ x.n < 4294967296 ∧ x.m < 18446744073709551616
def Lf.cs (x : Lf) : List Value := [.int .u32 (x.s : Nat), .int .u32 (x.c : Nat), .int .u32 (x.n : Nat), .int .u64 (x.m : Nat)]
def Lf.v (x : Lf) : Value := .agg #[.int .u32 (x.s : Nat), .int .u32 (x.c : Nat), .int .u32 (x.n : Nat), .int .u64 (x.m : Nat)]
theorem Lf.cs_len (x : Lf) : x.cs.length = 4 := rfl
theorem Lf.cs_one (x : Lf) : ∀ u ∈ x.cs, u.oneCell' = true := by intro u hu; simp [Lf.cs] at hu; rcases hu with rfl | rfl | rfl | rfl <;> rfl
def fnd (l : List Lf) (s c : Nat) : Option Lf := l.find? (fun x => x.s == s && x.c == c)
theorem fnd_snoc (l : List Lf) (x : Lf) (s c : Nat) : fnd (l ++ [x]) s c = (fnd l s c).or (if x.s = s ∧ x.c = c then some x else none) := by
 unfold fnd; rw [List.find?_append]
 congr 1
 by_cases h : x.s = s ∧ x.c = c
 · simp [h]
 · rw [if_neg h, List.find?_cons]; have : (x.s == s && x.c == c) = false := by
    rw [Bool.eq_false_iff]; intro hh; simp at hh; exact h hh
   rw [this]; rfl
def un (a b : List Lf) (s c : Nat) : Bool := match fnd a s c, fnd b s c with
 | some p, some q => p != q
 | _, _ => true
def updM (o : Option Nat) (c : Nat) : Option Nat := match o with
 | none => some c
 | some d => if c < d then some c else some d
def hit (a b : List Lf) (x : Lf) (s : Nat) : Bool := x.s == s && un a b x.s x.c
theorem hit_iff {a b : List Lf} {x : Lf} {s : Nat} : hit a b x s = true ↔ x.s = s ∧ un a b x.s x.c = true := by simp [hit]
def stepU (a b : List Lf) (s : Nat) (o : Option Nat) (x : Lf) : Option Nat := if hit a b x s then updM o x.c else o
def minU (a b : List Lf) (l : List Lf) (s : Nat) : Option Nat := l.foldl (stepU a b s) none
theorem foldU_some (a b : List Lf) (s : Nat) : ∀ (l : List Lf) (o : Option Nat) (d : Nat), l.foldl (stepU a b s) o = some d → (o = some d ∨ ∃ x ∈ l, hit a b x s = true ∧ x.c = d) ∧ (∀ e, o = some e → d ≤ e) ∧ ∀ x ∈ l, hit a b x s = true → d ≤ x.c
  | [], o, d, h => by
   simp only [List.foldl_nil] at h; exact ⟨.inl h, fun e he => by rw [h] at he; cases he; exact Nat.le_refl _, by simp⟩
  | x :: l, o, d, h => by
   rw [List.foldl_cons] at h; obtain ⟨h1, h2, h3⟩ := foldU_some a b s l _ d h; cases hh : hit a b x s
   · have e : stepU a b s o x = o := by unfold stepU; rw [hh]; simp
     rw [e] at h1 h2; refine ⟨?_, h2, fun z hz hu => ?_⟩
     · rcases h1 with h1 | ⟨y, hy, h4, h5⟩
       · exact .inl h1
       · exact .inr ⟨y, by simp [hy], h4, h5⟩
     · rcases List.mem_cons.1 hz with rfl | h6
       · rw [hh] at hu; cases hu
       · exact h3 z h6 hu
   · have e : stepU a b s o x = updM o x.c := by unfold stepU; rw [hh]; simp
     rw [e] at h1 h2; have hx : d ≤ x.c ∧ ∀ e, o = some e → d ≤ e := by
      cases o with
      | none => exact ⟨h2 x.c rfl, fun e he => by cases he⟩
      | some q =>
       unfold updM at h2; simp only at h2; split at h2
       · have := h2 _ rfl; exact ⟨this, fun e he => by cases he; omega⟩
       · have := h2 _ rfl; exact ⟨by omega, fun e he => by cases he; omega⟩
     refine ⟨?_, hx.2, fun z hz hu => ?_⟩
     · rcases h1 with h1 | ⟨y, hy, h4, h5⟩
       · cases o with
          | none => exact .inr ⟨x, by simp, hh, Option.some.inj h1⟩
          | some q =>
           unfold updM at h1; simp only at h1; split at h1
           · exact .inr ⟨x, by simp, hh, Option.some.inj h1⟩
           · exact .inl h1
       · exact .inr ⟨y, by simp [hy], h4, h5⟩
     · rcases List.mem_cons.1 hz with rfl | h6
       · exact hx.1
       · exact h3 z h6 hu
theorem minU_some (a b : List Lf) (l : List Lf) (s d : Nat) (h : minU a b l s = some d) : (∃ x ∈ l, hit a b x s = true ∧ x.c = d) ∧ ∀ x ∈ l, hit a b x s = true → d ≤ x.c := by
 obtain ⟨h1, _, h3⟩ := foldU_some a b s l none d h; exact ⟨h1.resolve_left (by simp), h3⟩
theorem minU_snoc (a b : List Lf) (l : List Lf) (x : Lf) (s : Nat) : minU a b (l ++ [x]) s = if hit a b x s then updM (minU a b l s) x.c else minU a b l s := by
 unfold minU; rw [List.foldl_append]; rfl
def idsU (a b : List Lf) : List Nat := srtN ((((a ++ b).map (·.s)).eraseDups).filter (fun s => (minU a b (a ++ b) s).isSome))
def cntU (a : List Lf) (s c : Nat) : Nat := ((fnd a s c).map (·.n)).getD 0
def apL (a b : List Lf) : List Lf := (idsU a b).map fun s => ⟨s, (minU a b (a ++ b) s).getD 0, cntU a s ((minU a b (a ++ b) s).getD 0), 0⟩
theorem idsU_mem {a b : List Lf} {s : Nat} : s ∈ idsU a b ↔ (minU a b (a ++ b) s).isSome = true := by
 unfold idsU; rw [(srtN_perm _).mem_iff, List.mem_filter, List.mem_eraseDups]; refine ⟨fun h => h.2, fun h => ⟨?_, h⟩⟩; obtain ⟨d, hd⟩ := Option.isSome_iff_exists.1 h; obtain ⟨⟨x, hx, hs, _⟩, _⟩ := minU_some _ _ _ _ _ hd; exact List.mem_map.2 ⟨x, hx, (hit_iff.1 hs).1⟩
theorem eraseDups_nodup : ∀ (n : Nat) (l : List Nat), l.length ≤ n → l.eraseDups.Nodup
  | _, [], _ => by simp
  | 0, a :: l, h => by simp at h
  | n + 1, a :: l, h => by
   rw [List.eraseDups_cons, List.nodup_cons]; refine ⟨?_, eraseDups_nodup n _ ?_⟩
   · rw [List.mem_eraseDups]; simp
   · have := List.length_filter_le (fun b => !b == a) l; simp at h; omega
theorem idsU_nodup (a b : List Lf) : (idsU a b).Nodup := by
 unfold idsU; rw [(srtN_perm _).nodup_iff]; exact (eraseDups_nodup _ _ (Nat.le_refl _)).filter _
theorem srtN_sorted (l : List Nat) : (srtN l).Pairwise (· ≤ ·) := by
 have := List.pairwise_mergeSort (le := fun x y : Nat => decide (x ≤ y)) (fun a b c h1 h2 => by simp at *; omega) (fun a b => by simp; omega) l; exact this.imp (fun h => by simpa using h)
theorem idsU_sort (a b : List Lf) : (idsU a b).Pairwise (· < ·) := by
 have h1 : (idsU a b).Pairwise (· ≤ ·) := srtN_sorted _; have h2 := idsU_nodup a b; rw [List.nodup_iff_pairwise_ne] at h2; exact List.Pairwise.imp₂ (fun _ _ h1 h2 => by omega) h1 h2
theorem sort_uniq : ∀ {l m : List Nat}, l.Pairwise (· < ·) → m.Pairwise (· < ·) → (∀ s, s ∈ l ↔ s ∈ m) → l = m
  | [], [], _, _, _ => rfl
  | [], y :: m, _, _, h => by have := (h y).2 (by simp); simp at this
  | x :: l, [], _, _, h => by have := (h x).1 (by simp); simp at this
  | x :: l, y :: m, hl, hm, h => by
   have h1 := List.pairwise_cons.1 hl; have h2 := List.pairwise_cons.1 hm; have e : x = y := by
    rcases List.mem_cons.1 ((h x).1 (by simp)) with e | e
    · exact e
    · rcases List.mem_cons.1 ((h y).2 (by simp)) with e2 | e2
      · exact e2.symm
      · have := h2.1 x e; have := h1.1 y e2; omega
   subst e; refine congrArg (x :: ·) (sort_uniq h1.2 h2.2 (fun s => ⟨fun hs => ?_, fun hs => ?_⟩))
   · rcases List.mem_cons.1 ((h s).1 (by simp [hs])) with e | e
     · have := h1.1 s hs; omega
     · exact e
   · rcases List.mem_cons.1 ((h s).2 (by simp [hs])) with e | e
     · have := h2.1 s hs; omega
     · exact e
theorem idsU_self (a : List Lf) : idsU a a = [] := by
 rw [List.eq_nil_iff_forall_not_mem]; intro s hs; rw [idsU_mem] at hs; obtain ⟨d, hd⟩ := Option.isSome_iff_exists.1 hs; obtain ⟨⟨x, hx, h12, h3⟩, _⟩ := minU_some _ _ _ _ _ hd; have h2 := (hit_iff.1 h12).2; have hx' : x ∈ a := by simpa using hx
 unfold un at h2; cases hf : fnd a x.s x.c with
 | none =>
  unfold fnd at hf; have := List.find?_eq_none.1 hf x hx'; simp at this
 | some p => rw [hf] at h2; simp at h2
end
section
open Go.RowKit
theorem chk_int {t : TypeId} {q : IntKind} (ht : Tryz.prog.underlying t = some (.int q)) (em : Bool) (n : Nat) (a : Int) (w : World) : (Instr.checkKey em (n + 1) t (.int q a)).run Tryz.prog w = .ok () w := by
 unfold Instr.checkKey; simp [run_underlying ht, Result.andThen]
def atV (k : Nat × Nat) : Value := .agg #[.int .u32 (k.1 : Nat), .int .u32 (k.2 : Nat)]
theorem at_chk (em : Bool) (a b : Int) (w : World) : (Instr.checkKey em 10000 97 (.agg #[.int .u32 a, .int .u32 b])).run Tryz.prog w = .ok () w := by
 have hu : Tryz.prog.underlying 97 = some (.struct (Tryz.prog.fieldsOf 97)) := by kernel_rfl
 rw [show (10000 : Nat) = 9999 + 1 from rfl, Instr.checkKey]; simp only [Sem.run_bind, run_underlying hu, Result.andThen_ok]; rw [← Array.forIn_toList]; have hf : (Tryz.prog.fieldsOf 97).toList.length = 2 := by kernel_rfl
 obtain ⟨f1, f2, hl⟩ : ∃ f1 f2, (Tryz.prog.fieldsOf 97).toList = [f1, f2] := by
  match h : (Tryz.prog.fieldsOf 97).toList, hf with
  | [x, y], _ => exact ⟨x, y, rfl⟩
 have hx : (Tryz.prog.fieldsOf 97).toList.map (fun f => (f.name, f.type, f.offset)) = [("series", 31, 0), ("chunk", 31, 1)] := by kernel_rfl
 rw [hl] at hx ⊢; simp only [List.map_cons, List.map_nil, List.cons.injEq, Prod.mk.injEq, and_true] at hx; obtain ⟨⟨a1, a2, a3⟩, b1, b2, b3⟩ := hx; have hi : Tryz.prog.underlying 31 = some (.int .u32) := by kernel_rfl
 have h0 : (part 31 #[.int .u32 a, .int .u32 b] 0).run Tryz.prog w = .ok (.int .u32 a) w := run_part_plain w (by kernel_rfl) rfl; have h1 : (part 31 #[.int .u32 a, .int .u32 b] 1).run Tryz.prog w = .ok (.int .u32 b) w := run_part_plain w (by kernel_rfl) rfl; simp only [List.forIn_cons, List.forIn_nil, a1, a2, a3, b1, b2, b3, ne_eq, show ¬ ("series" = "_") by decide, show ¬ ("chunk" = "_") by decide, not_false_eq_true, if_true, Sem.run_bind, h0, h1, Result.andThen_ok, chk_int hi em 9998, Sem.run_pure]
theorem at_eq (a b a' b' : Int) (w : World) : (Op.equal 97 (.agg #[.int .u32 a, .int .u32 b]) (.agg #[.int .u32 a', .int .u32 b'])).run Tryz.prog w = .ok (a == a' && b == b') w := by
 unfold Op.equal; rw [show Op.maxDepth = 10000 from rfl, run_equalIn_struct w 9999 97 _ _ (by kernel_rfl) (by kernel_rfl)]; have hf : (Tryz.prog.fieldsOf 97).toList.length = 2 := by kernel_rfl
 obtain ⟨f1, f2, hl⟩ : ∃ f1 f2, (Tryz.prog.fieldsOf 97).toList = [f1, f2] := by
  match h : (Tryz.prog.fieldsOf 97).toList, hf with
  | [x, y], _ => exact ⟨x, y, rfl⟩
 have hx : (Tryz.prog.fieldsOf 97).toList.map (fun f => (f.name, f.type, f.offset)) = [("series", 31, 0), ("chunk", 31, 1)] := by kernel_rfl
 rw [hl] at hx ⊢; simp only [List.map_cons, List.map_nil, List.cons.injEq, Prod.mk.injEq, and_true] at hx; obtain ⟨⟨a1, a2, a3⟩, b1, b2, b3⟩ := hx; simp only [Op.eqFields, a1, a2, a3, b1, b2, b3]; have hu : Tryz.prog.underlying 31 = some (.int .u32) := by kernel_rfl
 simp only [ne_eq, show ¬ ("series" = "_") by decide, show ¬ ("chunk" = "_") by decide, not_false_eq_true, if_true]; have he : ∀ a b, (Op.equalIn 9999 31 (.int .u32 a) (.int .u32 b)).run Tryz.prog w = .ok (a == b) w := fun a b => run_equalIn_int w 9998 _ .u32 .u32 a b hu; have h0 : ∀ x y : Value, (part 31 #[x, y] 0).run Tryz.prog w = .ok x w := fun x y => run_part_plain w (by kernel_rfl) rfl; have h1 : ∀ x y : Value, (part 31 #[x, y] 1).run Tryz.prog w = .ok y w := fun x y => run_part_plain w (by kernel_rfl) rfl; by_cases ha : a = a' <;> by_cases hb : b = b' <;> simp [ha, hb, Sem.run_bind, h0, h1, Result.andThen_ok, he]
theorem key_at : KeyK Tryz.prog 97 atV := by
 refine key_ask (by kernel_rfl) (fun em k w => at_chk em _ _ w) (fun a b w => ?_) (fun k => by simp [atV, Instr.sameBits]); unfold atV; rw [at_eq]
 congr 1
 rw [Bool.eq_iff_iff]; simp only [Bool.and_eq_true, beq_iff_eq]; exact ⟨fun h => Prod.ext (by omega) (by omega), fun h => by subst h; simp⟩
theorem leaf_eqIn (w : World) (a b c d a' b' c' d' : Int) : (Op.equalIn 10000 65 (.agg #[.int .u32 a, .int .u32 b, .int .u32 c, .int .u64 d]) (.agg #[.int .u32 a', .int .u32 b', .int .u32 c', .int .u64 d'])).run Tryz.prog w = .ok (a == a' && b == b' && c == c' && d == d') w := by
 rw [run_equalIn_struct w 9999 65 _ _ (by kernel_rfl) (by kernel_rfl)]; have hf : (Tryz.prog.fieldsOf 65).toList.length = 4 := by kernel_rfl
 obtain ⟨f1, f2, f3, f4, hl⟩ : ∃ f1 f2 f3 f4, (Tryz.prog.fieldsOf 65).toList = [f1, f2, f3, f4] := by
  match h : (Tryz.prog.fieldsOf 65).toList, hf with
  | [x, y, z, t], _ => exact ⟨x, y, z, t, rfl⟩
 have hx : (Tryz.prog.fieldsOf 65).toList.map (fun f => (f.name, f.type, f.offset)) = [("Series", 31, 0), ("Chunk", 31, 1), ("Count", 31, 2), ("Sum", 36, 3)] := by kernel_rfl
 rw [hl] at hx ⊢; simp only [List.map_cons, List.map_nil, List.cons.injEq, Prod.mk.injEq, and_true] at hx; obtain ⟨⟨a1, a2, a3⟩, ⟨b1, b2, b3⟩, ⟨c1, c2, c3⟩, d1, d2, d3⟩ := hx; simp only [Op.eqFields, a1, a2, a3, b1, b2, b3, c1, c2, c3, d1, d2, d3]; have hu : Tryz.prog.underlying 31 = some (.int .u32) := by kernel_rfl
 have hu2 : Tryz.prog.underlying 36 = some (.int .u64) := by kernel_rfl
 simp only [ne_eq, show ¬ ("Series" = "_") by decide, show ¬ ("Chunk" = "_") by decide, show ¬ ("Count" = "_") by decide, show ¬ ("Sum" = "_") by decide, not_false_eq_true, if_true]; have he : ∀ a b, (Op.equalIn 9999 31 (.int .u32 a) (.int .u32 b)).run Tryz.prog w = .ok (a == b) w := fun a b => run_equalIn_int w 9998 _ .u32 .u32 a b hu; have he2 : ∀ a b, (Op.equalIn 9999 36 (.int .u64 a) (.int .u64 b)).run Tryz.prog w = .ok (a == b) w := fun a b => run_equalIn_int w 9998 _ .u64 .u64 a b hu2; have h0 : ∀ x y z t : Value, (part 31 #[x, y, z, t] 0).run Tryz.prog w = .ok x w := fun x y z t => run_part_plain w (by kernel_rfl) rfl; have h1 : ∀ x y z t : Value, (part 31 #[x, y, z, t] 1).run Tryz.prog w = .ok y w := fun x y z t => run_part_plain w (by kernel_rfl) rfl; have h2 : ∀ x y z t : Value, (part 31 #[x, y, z, t] 2).run Tryz.prog w = .ok z w := fun x y z t => run_part_plain w (by kernel_rfl) rfl; have h3 : ∀ x y z t : Value, (part 36 #[x, y, z, t] 3).run Tryz.prog w = .ok t w := fun x y z t => run_part_plain w (by kernel_rfl) rfl; by_cases ha : a = a' <;> by_cases hb : b = b' <;> by_cases hc : c = c' <;> by_cases hd : d = d' <;> simp [ha, hb, hc, hd, Sem.run_bind, h0, h1, h2, h3, Result.andThen_ok, he, he2]
theorem leaf_eql (w : World) (a b c d a' b' c' d' : Int) : (binOp .eql 65 (.agg #[.int .u32 a, .int .u32 b, .int .u32 c, .int .u64 d]) (.agg #[.int .u32 a', .int .u32 b', .int .u32 c', .int .u64 d'])).run Tryz.prog w = .ok (.bool (a == a' && b == b' && c == c' && d == d')) w := by
 rw [run_eql_struct, leaf_eqIn]; rfl
theorem leaf_chk (em : Bool) (a b c d : Int) (w : World) : (Instr.checkKey em 10000 65 (.agg #[.int .u32 a, .int .u32 b, .int .u32 c, .int .u64 d])).run Tryz.prog w = .ok () w := by
 have hu : Tryz.prog.underlying 65 = some (.struct (Tryz.prog.fieldsOf 65)) := by kernel_rfl
 rw [show (10000 : Nat) = 9999 + 1 from rfl, Instr.checkKey]; simp only [Sem.run_bind, run_underlying hu, Result.andThen_ok]; rw [← Array.forIn_toList]; have hf : (Tryz.prog.fieldsOf 65).toList.length = 4 := by kernel_rfl
 obtain ⟨f1, f2, f3, f4, hl⟩ : ∃ f1 f2 f3 f4, (Tryz.prog.fieldsOf 65).toList = [f1, f2, f3, f4] := by
  match h : (Tryz.prog.fieldsOf 65).toList, hf with
  | [x, y, z, t], _ => exact ⟨x, y, z, t, rfl⟩
 have hx : (Tryz.prog.fieldsOf 65).toList.map (fun f => (f.name, f.type, f.offset)) = [("Series", 31, 0), ("Chunk", 31, 1), ("Count", 31, 2), ("Sum", 36, 3)] := by kernel_rfl
 rw [hl] at hx ⊢; simp only [List.map_cons, List.map_nil, List.cons.injEq, Prod.mk.injEq, and_true] at hx; obtain ⟨⟨a1, a2, a3⟩, ⟨b1, b2, b3⟩, ⟨c1, c2, c3⟩, d1, d2, d3⟩ := hx; have hi : Tryz.prog.underlying 31 = some (.int .u32) := by kernel_rfl
 have hi2 : Tryz.prog.underlying 36 = some (.int .u64) := by kernel_rfl
 have h0 : (part 31 #[.int .u32 a, .int .u32 b, .int .u32 c, .int .u64 d] 0).run Tryz.prog w = .ok (.int .u32 a) w := run_part_plain w (by kernel_rfl) rfl; have h1 : (part 31 #[.int .u32 a, .int .u32 b, .int .u32 c, .int .u64 d] 1).run Tryz.prog w = .ok (.int .u32 b) w := run_part_plain w (by kernel_rfl) rfl; have h2 : (part 31 #[.int .u32 a, .int .u32 b, .int .u32 c, .int .u64 d] 2).run Tryz.prog w = .ok (.int .u32 c) w := run_part_plain w (by kernel_rfl) rfl; have h3 : (part 36 #[.int .u32 a, .int .u32 b, .int .u32 c, .int .u64 d] 3).run Tryz.prog w = .ok (.int .u64 d) w := run_part_plain w (by kernel_rfl) rfl; simp only [List.forIn_cons, List.forIn_nil, a1, a2, a3, b1, b2, b3, c1, c2, c3, d1, d2, d3, ne_eq, show ¬ ("Series" = "_") by decide, show ¬ ("Chunk" = "_") by decide, show ¬ ("Count" = "_") by decide, show ¬ ("Sum" = "_") by decide, not_false_eq_true, if_true, Sem.run_bind, h0, h1, h2, h3, Result.andThen_ok, chk_int hi em 9998, chk_int hi2 em 9998, Sem.run_pure]
theorem key_leaf : KeyK Tryz.prog 65 Lf.v := by
 refine key_ask (by kernel_rfl) (fun em k w => leaf_chk em _ _ _ _ w) (fun a b w => ?_) (fun k => by simp [Lf.v, Instr.sameBits]); unfold Lf.v Op.equal; rw [show Op.maxDepth = 10000 from rfl, leaf_eqIn]
 congr 1
 rw [Bool.eq_iff_iff]; simp only [Bool.and_eq_true, beq_iff_eq]; obtain ⟨a1, a2, a3, a4⟩ := a; obtain ⟨b1, b2, b3, b4⟩ := b; simp only [Lf.mk.injEq]; omega
end
section
open Go.RowKit
def leafB (x : Lf) : List Bool := num x.s 32 ++ num x.c 32 ++ num x.n 32 ++ num x.m 64
def rootB (l : List Lf) : List Bool := l.flatMap leafB
def rootS (l : List Lf) : Nat := moreR 0 (rootB l)
theorem rootB_snoc (l : List Lf) (x : Lf) : rootB (l ++ [x]) = rootB l ++ leafB x := by simp [rootB]
theorem rootS_nil : rootS [] = 0 := rfl
theorem leaf_step (s : Nat) (x : Lf) : moreR (moreR (moreR (moreR s (num x.s 32)) (num x.c 32)) (num x.n 32)) (num x.m 64) = moreR s (leafB x) := by
 unfold leafB; rw [moreR_app, moreR_app, moreR_app]
end
section
open Go.RowKit
attribute [local go_sem] odr cdr
theorem leaf_elem : ElemOf Tryz.prog 23 65 4 24 := elemOf (z := .agg #[.int .u32 0, .int .u32 0, .int .u32 0, .int .u64 0]) (by kernel_rfl) (by kernel_rfl) rfl (by decide)
abbrev SlL (w : World) (a : Option Addr) (cap : Nat) (l : List Lf) : Prop := Sl 4 Lf.cs w a cap l
abbrev OwnLf (base : Nat) (w : World) (v : Value) (l : List Lf) : Prop := Own base 65 4 Lf.cs w v l
theorem SlL.at_ {w : World} {a : Option Addr} {cap : Nat} {xs : List Lf} (h : SlL w a cap xs) {k : Nat} (hk : k < xs.length) :
    ∃ b off, a = some ⟨b, off, none⟩ ∧ b < w.heap.size ∧ w.cell? ⟨b, off + k * 4, none⟩ = some (.int .u32 (xs[k].s : Nat)) ∧ w.cell? ⟨b, off + k * 4 + 1, none⟩ = some (.int .u32 (xs[k].c : Nat)) ∧ w.cell? ⟨b, off + k * 4 + 2, none⟩ = some (.int .u32 (xs[k].n : Nat)) ∧ w.cell? ⟨b, off + k * 4 + 3, none⟩ = some (.int .u64 (xs[k].m : Nat)) := by
  obtain ⟨b, off, rfl, hb, hcell⟩ := h.rec_ k xs[k] (List.getElem?_eq_getElem hk); have h0 := hcell 0 _ rfl; rw [Nat.add_zero] at h0; exact ⟨b, off, rfl, hb, h0, hcell 1 _ rfl, hcell 2 _ rfl, hcell 3 _ rfl⟩
theorem dmore_any (s : Nat) (hs : s < 18446744073709551616) (v W : Nat) (hv : v < 18446744073709551616) (hW : W ≤ 64) (w : World) :
    Calls Tryz.prog 38 #[.int .u64 (s : Nat), .int .u64 (v : Nat), .int .i64 (W : Nat)] w (Ret w (.int .u64 (moreR s (num v W) : Nat))) := by
  have HP : Hid (∀ W2, Calls Tryz.prog 61 #[.agg #[.slice none 0 0, .int .i64 0], .int .u64 (v : Nat), .int .i64 (W : Nat)] W2 (PutPost W2 (num v W))) := hid (fun W2 => by
   have h := bput_any [] (by simp) v W hv hW none 0 W2 (by rw [pack_nil]; exact Sl.nil _); rw [pack_nil] at h; exact h)
  have hl : (num v W).length = W := nml v W; obtain ⟨L, hL⟩ : ∃ L, num v W = L := ⟨_, rfl⟩; rw [hL] at HP hl ⊢; have HM := hid (fun a cap W2 hW2 => more_any s hs L (by omega) a cap W2 hW2); generalize moreR s L = r at *; clear hL hl
  go_enter Tryz.func38, Tryz.ntmps38
  go_wp2_with (first
    | (go_at_call 61; (with_reducible refine (HP.out _).mono ?_); rintro _ _ ⟨a1, c1, rfl, ⟨e1, rfl⟩, o1⟩; have S1 := hid (Own.slice' bcs_len o1).2; clear o1)
    | (go_at_call 62; (with_reducible refine (HM.out _ _ _ (by exact slA S1.out)).mono ?_); rintro _ _ ⟨⟨e2, rfl⟩, rfl⟩))
  go_ret
  exact ⟨ovA, rfl⟩
theorem rootS_take {l : List Lf} {k : Nat} (h : k < l.length) : rootS (l.take (k + 1)) = moreR (moreR (moreR (moreR (rootS (l.take k)) (num l[k].s 32)) (num l[k].c 32)) (num l[k].n 32)) (num l[k].m 64) := by
 rw [leaf_step, List.take_succ_eq_append_getElem h]; unfold rootS; rw [rootB_snoc, moreR_app]
theorem rootS_lt (l : List Lf) : rootS l < 2305843009213693951 := moreR_lt _ _
theorem root_any (l : List Lf) (hl : l.length ≤ 100000) (hwf : ∀ x ∈ l, x.wf) (a : Option Addr) (cap : Nat) (w : World) (hs : SlL w a cap l) :
    Calls Tryz.prog 15 #[.slice a l.length cap] w (Ret w (.int .u64 (rootS l : Nat))) := by
  have HD := hid (fun s hs v W hv hW w => dmore_any s hs v W hv hW w); have hi0 : ∀ (x y z : Int) (w : World), (Instr.index 86 (.agg #[.int .u32 x, .int .u32 y, .int .u32 z]) (.int .i64 0)).run Tryz.prog w = .ok (.int .u32 x) w := fun _ _ _ _ => by kernel_rfl
  have hi1 : ∀ (x y z : Int) (w : World), (Instr.index 86 (.agg #[.int .u32 x, .int .u32 y, .int .u32 z]) (.int .i64 1)).run Tryz.prog w = .ok (.int .u32 y) w := fun _ _ _ _ => by kernel_rfl
  have hi2 : ∀ (x y z : Int) (w : World), (Instr.index 86 (.agg #[.int .u32 x, .int .u32 y, .int .u32 z]) (.int .i64 2)).run Tryz.prog w = .ok (.int .u32 z) w := fun _ _ _ _ => by kernel_rfl
  have HW := hid hwf; clear hwf
  go_enter Tryz.func15, Tryz.ntmps15; go_wp2
  go_loopw [3, 10] (fun s i wr => ∃ k : Nat, k ≤ l.length ∧ i = .int .i64 (k : Nat) ∧ s = .int .u64 (rootS (l.take k) : Nat) ∧ Ov w wr) (fun _ i _ => l.length - (intOf i).toNat)
  case atStart => exact ⟨0, Nat.zero_le _, rfl, by rw [List.take_zero, rootS_nil]; rfl, ovA⟩
  case round =>
   obtain ⟨k, hk, rfl, rfl, ⟨e0, rfl⟩⟩ := hrel; by_cases hlt : k < l.length
   · have hst := rootS_take hlt; have hxw := HW.out _ (List.getElem_mem hlt); have hslt := rootS_lt (l.take k); obtain ⟨cb, co, rfl, hcb, q0, q1, q2, q3⟩ := SlL.at_ hs hlt; obtain ⟨⟨xs, xc, xn, xm⟩, hx⟩ : ∃ x, l[k]'hlt = x := ⟨_, rfl⟩; rw [hx] at hst hxw q0 q1 q2 q3; simp only at hst q0 q1 q2 q3; obtain ⟨h1, h2, h3, h4⟩ := hxw; simp only at h1 h2 h3 h4; obtain ⟨s0, hs0⟩ : ∃ z, rootS (l.take k) = z := ⟨_, rfl⟩; rw [hs0] at hst hslt ⊢; have HA := hid (fun W => HD.out s0 (by omega) xs 32 (by omega) (by omega) W); obtain ⟨s1, hs1⟩ : ∃ z, moreR s0 (num xs 32) = z := ⟨_, rfl⟩; have hb1 : s1 < 2305843009213693951 := by rw [← hs1]; exact moreR_lt _ _
     rw [hs1] at hst HA; have HB := hid (fun W => HD.out s1 (by omega) xc 32 (by omega) (by omega) W); obtain ⟨s2, hs2⟩ : ∃ z, moreR s1 (num xc 32) = z := ⟨_, rfl⟩; have hb2 : s2 < 2305843009213693951 := by rw [← hs2]; exact moreR_lt _ _
     rw [hs2] at hst HB; have HC := hid (fun W => HD.out s2 (by omega) xn 32 (by omega) (by omega) W); obtain ⟨s3, hs3⟩ : ∃ z, moreR s2 (num xn 32) = z := ⟨_, rfl⟩; have hb3 : s3 < 2305843009213693951 := by rw [← hs3]; exact moreR_lt _ _
     rw [hs3] at hst HC; have HE := hid (fun W => HD.out s3 (by omega) xm 64 h4 (by omega) W); rw [← hst] at HE; obtain ⟨s4, hs4⟩ : ∃ z, rootS (l.take (k + 1)) = z := ⟨_, rfl⟩; rw [hs4] at HE; have HS4 := hid hs4; have hd : decide (k < l.length) = true := decide_eq_true hlt; have HA2 : Hid (∀ W, Calls Tryz.prog 38 #[.int .u64 (s0 : Nat), .int .u64 (xs : Nat), .int .i64 32] W (Ret W (.int .u64 (s1 : Nat)))) := HA; have HB2 : Hid (∀ W, Calls Tryz.prog 38 #[.int .u64 (s1 : Nat), .int .u64 (xc : Nat), .int .i64 32] W (Ret W (.int .u64 (s2 : Nat)))) := HB; have HC2 : Hid (∀ W, Calls Tryz.prog 38 #[.int .u64 (s2 : Nat), .int .u64 (xn : Nat), .int .i64 32] W (Ret W (.int .u64 (s3 : Nat)))) := HC; have HE2 : Hid (∀ W, Calls Tryz.prog 38 #[.int .u64 (s3 : Nat), .int .u64 (xm : Nat), .int .i64 64] W (Ret W (.int .u64 (s4 : Nat)))) := HE; have w1 : IntKind.u64.wrap (xs : Int) = (xs : Int) := by rw [IntKind.wrap_u64]; omega
     have w2 : IntKind.u64.wrap (xc : Int) = (xc : Int) := by rw [IntKind.wrap_u64]; omega
     have w3 : IntKind.u64.wrap (xn : Int) = (xn : Int) := by rw [IntKind.wrap_u64]; omega
     clear hst hx hs0 hs1 hs2 hs3 hs4 HA HB HC HE; go_wp2; refine gen_w ?_; intro W5 hW5; obtain ⟨p5, hp5⟩ : ∃ p, p = w.heap.size + e0.heap.size := ⟨_, rfl⟩; have O5 : Hid (∃ e, W5 = over w e) := hid (by rw [hW5]; exact ovA); have P5 : Hid (Blk W5 p5 [.int .u32 (xs : Nat), .int .u32 (xc : Nat), .int .u32 (xn : Nat), .int .u64 (xm : Nat)] 65) := hid (by rw [hW5, hp5]; exact (by exact blA)); rw [← hp5]; clear hW5 hp5 q0 q1 q2 q3; have r3 := P5.out.cell 3 rfl; have rl := P5.out.lt
     go_loopw [3, 21] (fun s j wr => ((j = .int .i64 0 ∧ s = .int .u64 (s0 : Nat)) ∨ (j = .int .i64 1 ∧ s = .int .u64 (s1 : Nat)) ∨ (j = .int .i64 2 ∧ s = .int .u64 (s2 : Nat)) ∨ (j = .int .i64 3 ∧ s = .int .u64 (s3 : Nat))) ∧ Ov W5 wr) (fun _ j _ => 3 - (intOf j).toNat)
     case atStart => exact ⟨.inl ⟨rfl, rfl⟩, ovA⟩
     case round =>
      obtain ⟨hq, ⟨e6, rfl⟩⟩ := hrel; rcases hq with ⟨rfl, rfl⟩ | ⟨rfl, rfl⟩ | ⟨rfl, rfl⟩ | ⟨rfl, rfl⟩
      · go_wp2_with (go_at_call 38; (with_reducible refine (HA2.out _).mono ?_); rintro _ _ ⟨⟨e7, rfl⟩, rfl⟩)
        go_roundw
        case rel => exact ⟨.inr (.inl ⟨by go_num, rfl⟩), ovA⟩
        case measure => (simp [intOf]; try omega)
      · go_wp2_with (go_at_call 38; (with_reducible refine (HB2.out _).mono ?_); rintro _ _ ⟨⟨e7, rfl⟩, rfl⟩)
        go_roundw
        case rel => exact ⟨.inr (.inr (.inl ⟨by go_num, rfl⟩)), ovA⟩
        case measure => (simp [intOf]; try omega)
      · go_wp2_with (go_at_call 38; (with_reducible refine (HC2.out _).mono ?_); rintro _ _ ⟨⟨e7, rfl⟩, rfl⟩)
        go_roundw
        case rel => exact ⟨.inr (.inr (.inr ⟨by go_num, rfl⟩)), ovA⟩
        case measure => (simp [intOf]; try omega)
      · go_wp2_with (go_at_call 38; (with_reducible refine (HE2.out _).mono ?_); rintro _ _ ⟨⟨e7, rfl⟩, rfl⟩)
        go_roundw
        case rel => exact ⟨k + 1, by omega, by go_num, by rw [HS4.out], (ovB O5.out)⟩
        case measure => (simp [intOf]; try omega)
   · obtain rfl : k = l.length := by omega
     rw [List.take_length] at *; go_wp2; go_ret
     exact ⟨ovA, rfl⟩
end
section
open Go.RowKit
attribute [local go_sem] odr cdr
abbrev zLf : Value := .agg #[.int .u32 0, .int .u32 0, .int .u32 0, .int .u64 0]
theorem zero_leaf (w : World) : (zeroValue 65).run Tryz.prog w = .ok zLf w := by kernel_rfl
def IdxM (m : List ((Nat × Nat) × Value)) (l : List Lf) : Prop := ∀ s c, kGet m (s, c) = (fnd l s c).map Lf.v
theorem IdxM.nil : IdxM [] [] := fun _ _ => rfl
theorem IdxM.old {m : List ((Nat × Nat) × Value)} {l : List Lf} (h : IdxM m l) {x p : Lf} (hp : fnd l x.s x.c = some p) : IdxM m (l ++ [x]) := by
 intro s c; rw [h s c, fnd_snoc]; by_cases e : x.s = s ∧ x.c = c
 · obtain ⟨rfl, rfl⟩ := e; rw [hp]; rfl
 · rw [if_neg e, Option.or_none]
theorem IdxM.new {m : List ((Nat × Nat) × Value)} {l : List Lf} (h : IdxM m l) {x : Lf} (hp : fnd l x.s x.c = none) : IdxM (kPut m (x.s, x.c) x.v) (l ++ [x]) := by
 intro s c; rw [kget_put, fnd_snoc, h s c]; by_cases e : x.s = s ∧ x.c = c
 · obtain ⟨rfl, rfl⟩ := e; rw [if_pos rfl, hp, if_pos ⟨rfl, rfl⟩]; rfl
 · rw [if_neg (fun hh => e (by simpa using hh)), if_neg e, Option.or_none]
def IdxPost (w : World) (l : List Lf) (en : Ending) (w' : World) : Prop := ∃ mb m, en = .returned (.map (some mb)) ∧ (∃ e, w' = over w e) ∧ w.heap.size ≤ mb ∧ MapK w' mb atV m ∧ IdxM m l
theorem index_any (l : List Lf) (hl : l.length ≤ 100000) (a : Option Addr) (cap : Nat) (w : World) (hs : SlL w a cap l) :
    Calls Tryz.prog 41 #[.slice a l.length cap] w (IdxPost w l) := by
  have hmk : ∀ W : World, (Instr.makeMap 92 none).run Tryz.prog W = .ok (.map (some W.heap.size)) (W.alloc (.map #[] 0)) := fun W => rfl
  go_enter Tryz.func41, Tryz.ntmps41; go_wp2
  go_loopw [12] (fun i wr => ∃ (k : Nat) (m : List ((Nat × Nat) × Value)), k ≤ l.length ∧ i = .int .i64 (k : Nat) ∧ MapK wr w.heap.size atV m ∧ IdxM m (l.take k) ∧ Ov w wr) (fun i _ => l.length - (intOf i).toNat)
  case atStart => exact ⟨0, [], Nat.zero_le _, rfl, MapK.new' atV rfl, by rw [List.take_zero]; exact IdxM.nil, ovA⟩
  case round =>
   obtain ⟨k, m, hk, rfl, hm, hi, hov⟩ := hrel; have O1 : Hid (∃ e, wr = over w e) := hid hov; have HM := hid hm; have HI := hid hi; have hml := hm.lt; by_cases hlt : k < l.length
   · obtain ⟨cb, co, rfl, hcb, q0, q1, q2, q3⟩ := SlL.at_ (Sl.ov hs hov) hlt; have htk := List.take_succ_eq_append_getElem hlt; obtain ⟨x, hx⟩ : ∃ x, l[k]'hlt = x := ⟨_, rfl⟩; rw [hx] at q0 q1 q2 q3 htk; have HTK := hid htk; have hget := hi x.s x.c; have hd : decide (k < l.length) = true := decide_eq_true hlt; obtain ⟨xs, xc, xn, xm⟩ := x; simp only at q0 q1 q2 q3 hget; cases hf : fnd (l.take k) xs xc with
     | none =>
      rw [hf] at hget; have HV : Hid ((if true then (.tuple #[(kGet m (xs, xc)).getD zLf, .bool (kGet m (xs, xc)).isSome] : Value) else (kGet m (xs, xc)).getD zLf) = .tuple #[.agg #[.int .u32 0, .int .u32 0, .int .u32 0, .int .u64 0], .bool false]) := hid (by rw [hget]; rfl); have HN := hid (IdxM.new hi (x := ⟨xs, xc, xn, xm⟩) hf); clear hm hi hov hx htk hget hf
      go_wp2_with (first
        | (at_lookup; refine wpList_klookup rfl (.tmp 22) (.tmp 23) 92 true rfl 97 65 key_at (by kernel_rfl) zLf (zero_leaf _) w.heap.size m rfl (MapK.chg (F := []) HM.out (by exact chA) (by simp)) (xs, xc) rfl _ HV.out ?_)
        | (at_mapUpdate; refine wpList_kupdate rfl (.tmp 29) (.tmp 30) (.tmp 31) 92 rfl 97 65 key_at (by kernel_rfl) w.heap.size m (xs, xc) (Lf.v ⟨xs, xc, xn, xm⟩) rfl rfl rfl (MapK.chg (F := []) HM.out (by exact chA) (by simp)) ?_; intro mt hm6; have HM6 := hid hm6; clear hm6))
      go_roundw
      case rel => exact ⟨k + 1, _, by omega, by go_num, HM6.out, by rw [HTK.out]; exact HN.out, Chg.ov (F := [w.heap.size]) O1.out (by exact chA) (by simp)⟩
      case measure => (simp [intOf]; try omega)
     | some p =>
      rw [hf] at hget; obtain ⟨ps, pc, pn, pm⟩ := p; have HV : Hid ((if true then (.tuple #[(kGet m (xs, xc)).getD zLf, .bool (kGet m (xs, xc)).isSome] : Value) else (kGet m (xs, xc)).getD zLf) = .tuple #[.agg #[.int .u32 (ps : Nat), .int .u32 (pc : Nat), .int .u32 (pn : Nat), .int .u64 (pm : Nat)], .bool true]) := hid (by rw [hget]; rfl); have HN := hid (IdxM.old hi (x := ⟨xs, xc, xn, xm⟩) hf); clear hm hi hov hx htk hget hf; go_wp2_with (at_lookup; refine wpList_klookup rfl (.tmp 22) (.tmp 23) 92 true rfl 97 65 key_at (by kernel_rfl) zLf (zero_leaf _) w.heap.size m rfl (MapK.chg (F := []) HM.out (by exact chA) (by simp)) (xs, xc) rfl _ HV.out ?_)
      go_roundw
      case rel => exact ⟨k + 1, m, by omega, by go_num, MapK.chg (F := []) HM.out (by exact chA) (by simp), by rw [HTK.out]; exact HN.out, (ovB O1.out)⟩
      case measure => (simp [intOf]; try omega)
   · obtain rfl : k = l.length := by omega
     rw [List.take_length] at *; clear hm hi hov; go_wp2; go_ret
     exact ⟨_, m, rfl, O1.out, Nat.le_refl _, HM.out, HI.out⟩
end
section
open Go.RowKit
section
variable {P : Program} {κ : Type} [DecidableEq κ]
def MapE (w : World) (b : Nat) (enc : κ → Value) (m : List (κ × Value)) (key : κ) (v0 : Value) (st : Int) : Prop :=
 ∃ (es : Array MapEntry) (clock : Nat) (l : List (κ × Value)) (j : Nat) (e : MapEntry), w.heap[b]? = some (.map es clock) ∧ es.toList.map (fun e => (e.key, e.val)) = (l.map fun x => (enc x.1, x.2)) ∧ (es.toList.map (·.born)).Nodup ∧ (∀ e ∈ es.toList, e.born < clock) ∧ es.toList[j]? = some e ∧ (e.born : Int) = st ∧ e.key = enc key ∧ (∀ val, l.set j (key, val) = kPut m key val) ∧ l = kPut m key v0
theorem MapE.lt {w : World} {b : Nat} {enc : κ → Value} {m : List (κ × Value)} {key : κ} {v0 : Value} {st : Int} (h : MapE w b enc m key v0 st) : b < w.heap.size := by
 obtain ⟨es, clock, l, j, e, hb, _⟩ := h; exact (Array.getElem?_eq_some_iff.1 hb).1
theorem MapE.chg {w w' : World} {b : Nat} {enc : κ → Value} {m : List (κ × Value)} {key : κ} {v0 : Value} {st : Int} {F : List Nat} (h : MapE w b enc m key v0 st) (hc : Chg F w w') (hF : b ∉ F) : MapE w' b enc m key v0 st := by
 have hl := h.lt; obtain ⟨es, clock, l, j, e, hb, he⟩ := h; exact ⟨es, clock, l, j, e, (hc.block b hl hF).trans hb, he⟩
theorem MapE.map {w : World} {b : Nat} {enc : κ → Value} {m : List (κ × Value)} {key : κ} {v0 : Value} {st : Int} (h : MapE w b enc m key v0 st) : MapK w b enc (kPut m key v0) := by
 obtain ⟨es, clock, l, j, e, hb, he, hnd, hbo, hj, hst, hk, hset, hl0⟩ := h; subst hl0; exact ⟨es, clock, hb, he, hnd, hbo⟩
theorem k_entry {t kt e : TypeId} {enc : κ → Value} (K : KeyK P kt enc) (ht : P.underlying t = some (.map kt e)) {w : World} {z : Value} (hz : (zeroValue e).run P w = .ok z w) {b : Nat} {m : List (κ × Value)} (h : MapK w b enc m) (key : κ) :
    ∃ w' st, (Instr.mapEntry t (.map (some b)) (enc key)).run P w = .ok (.tuple #[(kGet m key).getD z, .int .i64 st]) w' ∧ MapE w' b enc m key ((kGet m key).getD z) st ∧ Chg [b] w w' := by
  obtain ⟨es, clock, hb, he, hnd, hbo⟩ := h; have hf := K.find w key _ m he; have hc := K.chk false key w; have hl := (Array.getElem?_eq_some_iff.1 hb).1; have hes : es.toList.length = m.length := by simpa using congrArg List.length he
  cases hq : m.findIdx? (fun x => x.1 == key) with
  | none =>
   rw [hq] at hf; have hg : kGet m key = none := by unfold kGet; rw [hq]; rfl
   rw [hg]; refine ⟨{ w with heap := w.heap.setIfInBounds b (.map (es.push { key := enc key, val := z, born := clock }) (clock + 1)) }, clock, ?_, ⟨es.push { key := enc key, val := z, born := clock }, clock + 1, m ++ [(key, z)], m.length, { key := enc key, val := z, born := clock }, ?_, ?_, ?_, ?_, ?_, rfl, rfl, ?_, ?_⟩, ?_⟩
   · unfold Instr.mapEntry; simp only [Sem.run_bind, run_underlying ht, Result.andThen_ok, MapKept.run_getObj_map hb, Sem.run_pure, hc, hf, Option.bind_none, hz, MapKept.run_setObj_map _ hb]; rfl
   · simp [Array.getElem?_setIfInBounds, hl]
   · simp [he]
   · rw [Array.toList_push, List.map_append]; refine List.nodup_append.2 ⟨hnd, by simp, fun a ha b hb => ?_⟩; obtain ⟨e, he1, rfl⟩ := List.mem_map.1 ha; simp at hb; subst hb; have := hbo e he1; omega
   · intro e he1; rw [Array.toList_push] at he1; rcases List.mem_append.1 he1 with h1 | h1
     · have := hbo e h1; omega
     · simp at h1; subst h1; simp
   · rw [Array.toList_push, ← hes]; simp
   · intro val; unfold kPut; rw [hq]; simp
   · unfold kPut; rw [hq]; rfl
   · exact ⟨rfl, rfl, rfl, by simp, fun i hi hn => by simp only [Array.getElem?_setIfInBounds]; rw [if_neg]; intro h; subst h; exact hn (by simp)⟩
  | some j =>
   rw [hq] at hf; obtain ⟨hj, hj2⟩ := List.findIdx?_eq_some_iff_findIdx_eq.1 hq; have hkey : m[j].1 = key := by
    have := (List.findIdx?_eq_some_iff_getElem.1 hq).2.1
    simpa using this
   simp only [Option.bind_some, List.getElem?_eq_getElem hj, Option.map_some] at hf; have hg : kGet m key = some m[j].2 := by unfold kGet; rw [hq]; simp [List.getElem?_eq_getElem hj]
   rw [hg]; have hje : j < es.size := by have := hes; simp at this; omega
   have hent : es[j].key = enc key := by
    have h1 := congrArg (fun l => l[j]?) he; simp only [List.getElem?_map, List.getElem?_eq_getElem hj, Option.map_some] at h1; rw [List.getElem?_eq_getElem (by simpa using hje)] at h1; simp only [Option.map_some, Option.some.injEq, Prod.mk.injEq, Array.getElem_toList] at h1; rw [h1.1, hkey]
   have hst : (Instr.keyThatStays es[j].key (enc key)).run P w = .ok (enc key) w := by rw [hent]; exact K.stays key w
   have hjl : es.toList[j]? = some es[j] := by simp [hje]
   have hsame : es.modify j (fun e => { e with key := enc key }) = es := by
    apply Array.ext'; rw [Array.toList_modify, ChangeMaps.modify_eq_set _ _ _ _ hjl]; have : ({ es[j] with key := enc key } : MapEntry) = es[j] := by rw [← hent]
    rw [this]; exact WideElems.set_self _ _ _ hjl
   refine ⟨{ w with heap := w.heap.setIfInBounds b (.map es clock) }, es[j].born, ?_, ⟨es, clock, m, j, es[j], ?_, he, hnd, hbo, hjl, rfl, hent, ?_, ?_⟩, ?_⟩
   · unfold Instr.mapEntry; simp only [Sem.run_bind, run_underlying ht, Result.andThen_ok, MapKept.run_getObj_map hb, Sem.run_pure, hc, hf]; simp only [Array.getElem?_eq_getElem hje, Option.map_some, Option.getD_some, Sem.run_bind, hst, Result.andThen_ok, hsame, MapKept.run_setObj_map _ hb, Option.bind_some, List.getElem?_eq_getElem hj]; rfl
   · simp [Array.getElem?_setIfInBounds, hl]
   · intro val; unfold kPut; rw [hq]
   · unfold kPut; rw [hq]; simp only [Option.getD_some]; have h9 : m[j] = (key, m[j].2) := by rw [← hkey]
     rw [← h9]; exact (WideElems.set_self _ _ _ (List.getElem?_eq_getElem hj)).symm
   · exact ⟨rfl, rfl, rfl, by simp, fun i hi hn => by simp only [Array.getElem?_setIfInBounds]; rw [if_neg]; intro h; subst h; exact hn (by simp)⟩
theorem k_estore {t : TypeId} {enc : κ → Value} {w : World} {b : Nat} {m : List (κ × Value)} {key : κ} {v0 : Value} {st : Int} (h : MapE w b enc m key v0 st) (val : Value) :
    ∃ w', (Instr.entryStore t (.map (some b)) (.int .i64 st) val).run P w = .ok () w' ∧ MapK w' b enc (kPut m key val) ∧ Chg [b] w w' := by
  obtain ⟨es, clock, l, j, e, hb, he, hnd, hbo, hj, hst, hk, hset, hl0⟩ := h; have hl := (Array.getElem?_eq_some_iff.1 hb).1; subst hst; have hidx : es.findIdx? (fun e' => ((e'.born : Nat) : Int) == ((e.born : Nat) : Int)) = some j := by
   rw [WideElems.findIdx_arr]; exact WideElems.findIdx_born hnd hj
  have hje : j < es.size := by have := (List.getElem?_eq_some_iff.1 hj).1; simpa using this
  have hej : es[j] = e := by have := (List.getElem?_eq_some_iff.1 hj).2; simpa using this
  refine ⟨{ w with heap := w.heap.setIfInBounds b (.map (es.modify j fun e => { e with val := val }) clock) }, ?_, ⟨(es.modify j fun e => { e with val := val }), clock, ?_, ?_, ?_, ?_⟩, ?_⟩
  · unfold Instr.entryStore; simp only [Sem.run_bind, MapKept.run_getObj_map hb, Result.andThen_ok, asInt, asIntOf, Sem.run_pure, hidx]; exact MapKept.run_setObj_map _ hb
  · simp [Array.getElem?_setIfInBounds, hl]
  · rw [← hset val, List.map_set, ← he]; apply List.ext_getElem?; intro i; simp only [List.getElem?_map, Array.getElem?_toList, Array.getElem?_modify, List.getElem?_set]; by_cases hi : j = i
    · subst hi; simp [Array.getElem?_eq_getElem hje, hje, hej, hk]
    · simp [hi]
  · have hbe : ((es.modify j fun e => { e with val := val }).toList.map (·.born)) = es.toList.map (·.born) := by
     apply List.ext_getElem?; intro i; simp only [List.getElem?_map, Array.getElem?_toList, Array.getElem?_modify]; by_cases hi : j = i
     · subst hi; simp [Array.getElem?_eq_getElem hje]
     · simp [hi]
    rw [hbe]; exact hnd
  · intro e he1; obtain ⟨i, hi, rfl⟩ := List.getElem_of_mem he1; simp only [Array.length_toList, Array.size_modify] at hi; simp only [Array.getElem_toList, Array.getElem_modify]; have h9 := hbo es[i] (by simp); split
    · exact h9
    · exact h9
  · exact ⟨rfl, rfl, rfl, by simp, fun i hi hn => by simp only [Array.getElem?_setIfInBounds]; rw [if_neg]; intro h; subst h; exact hn (by simp)⟩
theorem wpList_kentry {w : World} {ops : Array Oper} {rest : List Oper} {o : Oper} {a : Act} {Q : Exit → Act → World → Prop} {enc : κ → Value}
    (hg : o.guard = none) (m x : Operand) (t : TypeId) (hop : o.op = Op.mapEntry t m x) (kt e : TypeId) (K : KeyK P kt enc) (ht : P.underlying t = some (.map kt e)) (z : Value) (hz : (zeroValue e).run P w = .ok z w) (b : Nat) (l : List (κ × Value)) (key : κ) (v : Value) (hv : (kGet l key).getD z = v)
    (hm : a.eval m = .map (some b)) (hx : a.eval x = enc key) (h : MapK w b enc l)
    (hK : ∀ mt st, MapE (chg [b] w mt) b enc l key v st → wpList P ops Q rest (a.put o.dst (.tuple #[v, .int .i64 st])) (chg [b] w mt)) : wpList P ops Q (o :: rest) a w := by
  refine wpList_plain hg fun K' hK' => ?_; obtain ⟨w', st, hrun, h1, h2⟩ := k_entry K ht hz h key; obtain ⟨mt, rfl⟩ := chg_of h2; rw [hv] at hrun h1; unfold Oper.wp; simp [execOp, hop, hm, hx, hrun, Result.andThen]; exact hK' _ _ (hK mt st h1)
theorem wpList_kestore {w : World} {ops : Array Oper} {rest : List Oper} {o : Oper} {a : Act} {Q : Exit → Act → World → Prop} {enc : κ → Value}
    (hg : o.guard = none) (m x v : Operand) (t : TypeId) (hop : o.op = Op.entryStore t m x v) (b : Nat) (l : List (κ × Value)) (key : κ) (st : Int) (v0 val : Value)
    (hm : a.eval m = .map (some b)) (hx : a.eval x = .int .i64 st) (hv : a.eval v = val) (h : MapE w b enc l key v0 st)
    (hK : ∀ mt, MapK (chg [b] w mt) b enc (kPut l key val) → wpList P ops Q rest (a.put o.dst undef) (chg [b] w mt)) : wpList P ops Q (o :: rest) a w := by
  refine wpList_plain hg fun K' hK' => ?_; obtain ⟨w', hrun, h1, h2⟩ := k_estore (t := t) (P := P) h val; obtain ⟨mt, rfl⟩ := chg_of h2; unfold Oper.wp; simp [execOp, hop, hm, hx, hv, hrun, Result.andThen]; exact hK' _ _ (hK mt h1)
end
end
end Go.Proofs.YtnffcckhdedhpaaGreatDoor
