import Derived.Test.YtnihngljmmbenaaGreatDoorGF
import Derived.Test.YtnihngljmmbenaaGreatDoorNI
import Derived.Test.YtnihngljmmbenaaGreatDoorGA
import Derived.Maps.OwnOps
import Derived.Laws.Entries
import Derived.ArgAppend
import Derived.Test.YtnihngljmmbenaaGreatDoorGM
import Derived.Test.YtnihngljmmbenaaGreatDoorNE
namespace Go.Proofs.YtnihngljmmbenaaGreatDoor
set_option linter.unusedVariables false
set_option linter.unusedSimpArgs false
section

structure Sr where
  cl : List (List Sm)
  op : List Sm
def Sr.zero : Sr := ⟨[], []⟩
def Sr.all (s : Sr) : List Sm := s.cl.flatten ++ s.op
def Sr.chunks (s : Sr) : List (List Sm) := s.cl ++ [s.op]
def Sr.ahead (s : Sr) : Int := match s.cl.getLast? with
  | some c => (knowC En.zero c).last
  | none => 0
def Sr.some (s : Sr) : Bool := !s.cl.isEmpty
def Sr.may (s : Sr) (t : Int) : Prop := if s.op = [] then s.cl = [] ∨ s.ahead < t else (knowC En.zero s.op).last < t
instance (s : Sr) (t : Int) : Decidable (s.may t) := by unfold Sr.may; infer_instance
def Sr.put (sz : Nat) (s : Sr) (x : Sm) : Sr := if s.op.length + 1 = sz then ⟨s.cl ++ [s.op ++ [x]], []⟩ else ⟨s.cl, s.op ++ [x]⟩
structure ChkOk (c : List Sm) : Prop where
  len : c.length ≤ 24
  wf : ∀ x ∈ c, x.wf
  good : goodC En.zero c
structure SrOk (s : Sr) : Prop where
  cl : ∀ c ∈ s.cl, c ≠ [] ∧ ChkOk c
  op : ChkOk s.op
theorem ChkOk.nil : ChkOk [] := ⟨by simp, by simp, trivial⟩
theorem SrOk.zero : SrOk Sr.zero := ⟨by simp [Sr.zero], ChkOk.nil⟩
theorem put_all (sz : Nat) (s : Sr) (x : Sm) : (s.put sz x).all = s.all ++ [x] := by
  unfold Sr.put Sr.all
  split <;> simp
theorem may_comes {s : Sr} (h : ChkOk s.op) {t : Int} (hm : s.may t) : comes (knowC En.zero s.op) t := by
  unfold comes
  have hn := (knowZ h.wf (by have := h.len; omega)).2.2
  unfold Sr.may at hm
  split at hm
  · rename_i h0
    left; rw [hn, h0]; rfl
  · exact .inr hm
theorem ChkOk.snoc {c : List Sm} (h : ChkOk c) {x : Sm} (hx : x.wf) (hl : c.length < 24) (hc : comes (knowC En.zero c) x.t) : ChkOk (c ++ [x]) :=
  ⟨by simp; omega, by intro y hy; rcases List.mem_append.1 hy with h' | h'; exact h.wf y h'; simp at h'; subst h'; exact hx, (goodC_snoc _ _ _).2 ⟨h.good, hc⟩⟩
theorem put_ok {sz : Nat} (hsz : sz ≤ 24) {s : Sr} (h : SrOk s) (hop : s.op.length < sz) {x : Sm} (hx : x.wf) (hm : s.may x.t) : SrOk (s.put sz x) ∧ (s.put sz x).op.length < sz := by
  have hn := h.op.snoc hx (by omega) (may_comes h.op hm)
  unfold Sr.put
  split
  · refine ⟨⟨?_, ChkOk.nil⟩, by simp; omega⟩
    intro c hc
    rcases List.mem_append.1 hc with h' | h'
    · exact h.cl c h'
    · simp at h'; subst h'; exact ⟨by simp, hn⟩
  · exact ⟨⟨h.cl, hn⟩, by simp; omega⟩

def blen (c : List Sm) (n : Nat) : Nat := (bitsC En.zero (c.take n)).length
def Sr.at_ (s : Sr) (k : Nat) : Option (List Sm × Bool) := if h : k < s.cl.length then Option.some (s.cl[k], true) else if k = s.cl.length then Option.some (s.op, false) else none
structure Pl where
  chunk : Nat
  bits : Nat
  count : Nat
def Pl.zero : Pl := ⟨0, 0, 0⟩
def Sr.fin (s : Sr) : Pl := ⟨s.cl.length, blen s.op s.op.length, s.op.length⟩
def Sr.has (s : Sr) (p : Pl) (c : List Sm) (b : Bool) : Prop := s.at_ p.chunk = Option.some (c, b) ∧ p.count ≤ c.length ∧ (b = true → p.count < c.length) ∧ blen c p.count = p.bits
def cutTo (c : List Sm) (from_ : Nat) (most : Int) : Nat → Nat → Nat
  | 0, n => n
  | f + 1, n => if n < c.length ∧ (blen c (n + 1) : Int) - from_ ≤ most then cutTo c from_ most f (n + 1) else n
def cutN (c : List Sm) (p : Pl) (most : Int) : Nat := cutTo c p.bits most c.length (p.count + 1)
def Sr.behind (s : Sr) (p : Pl) : Int := ((s.chunks.drop p.chunk).map fun c => ((bitsC En.zero c).length : Int)).sum - p.bits
end
section
open Go.RowKit

def MapAt (w : World) (b : Nat) (m : List (Nat × Value)) : Prop :=
  ∃ es clock, w.heap[b]? = some (.map es clock) ∧ es.toList.map (fun e => (e.key, e.val)) = (m.map fun x => (Value.int .u32 (x.1 : Nat), x.2)) ∧ (es.toList.map (·.born)).Nodup ∧ ∀ e ∈ es.toList, e.born < clock
theorem MapAt.lt {w : World} {b : Nat} {m : List (Nat × Value)} (h : MapAt w b m) : b < w.heap.size := by
  obtain ⟨es, clock, hb, _⟩ := h
  exact (Array.getElem?_eq_some_iff.1 hb).1
theorem MapAt.chg {w w' : World} {b : Nat} {m : List (Nat × Value)} {F : List Nat} (h : MapAt w b m) (hc : Chg F w w') (hF : b ∉ F) : MapAt w' b m := by
  have hl := h.lt
  obtain ⟨es, clock, hb, he⟩ := h
  exact ⟨es, clock, (hc.block b hl hF).trans hb, he⟩
theorem MapAt.new (w : World) : MapAt (w.alloc (.map #[] 0)) w.heap.size [] := ⟨#[], 0, heap_alloc_new w _, rfl, by simp, by simp⟩

section
variable {P : Program}
theorem find_now (k : Nat) : ∀ (es : List MapEntry) (m : List (Nat × Value)) (i : Nat), es.map (fun e => (e.key, e.val)) = m.map (fun x => (Value.int .u32 (x.1 : Nat), x.2)) →
    Instr.findNow (.int .u32) (.int .u32 (k : Nat)) es i = some ((m.findIdx? (fun x => x.1 == k)).bind fun j => (m[j]?).map fun x => (i + j, x.2))
  | [], [], i, _ => by simp [Instr.findNow]
  | [], x :: m, i, h => by simp at h
  | e :: es, [], i, h => by simp at h
  | e :: es, x :: m, i, h => by
    simp only [List.map_cons, List.cons.injEq, Prod.mk.injEq] at h
    obtain ⟨⟨h1, h2⟩, h3⟩ := h
    have ih := find_now k es m (i + 1) h3
    unfold Instr.findNow
    rw [h1]
    simp only [Instr.sameNow, if_true]
    by_cases hx : x.1 = k
    · have e1 : ((k : Int) == (x.1 : Int)) = true := by rw [hx]; simp
      rw [e1]
      simp [List.findIdx?_cons, hx, h2]
    · have e1 : ((k : Int) == (x.1 : Int)) = false := by rw [beq_eq_false_iff_ne]; intro h; exact hx (by omega)
      rw [e1]
      have e2 : (x.1 == k) = false := by simpa using hx
      simp only [ih, List.findIdx?_cons, e2]
      cases hq : m.findIdx? (fun x => x.1 == k) with
      | none => simp [hq]
      | some j => simp [hq, Nat.add_assoc, Nat.add_comm 1 j]
theorem find_key {t : TypeId} (ht : P.underlying t = some (.int .u32)) {w : World} (k : Nat) {es : List MapEntry} {m : List (Nat × Value)} (h : es.map (fun e => (e.key, e.val)) = m.map (fun x => (Value.int .u32 (x.1 : Nat), x.2))) :
    (Instr.findKey t (.int .u32 (k : Nat)) es).run P w = .ok ((m.findIdx? (fun x => x.1 == k)).bind fun j => (m[j]?).map fun x => (j, x.2)) w := by
  have hf := find_now k es m 0 h
  simp only [Nat.zero_add] at hf
  simp [Instr.findKey, run_underlying ht, Result.andThen, hf]
theorem check_key {t : TypeId} (ht : P.underlying t = some (.int .u32)) {w : World} (b : Bool) (k : Nat) : (Instr.checkKey b 10000 t (.int .u32 (k : Nat))).run P w = .ok () w := by
  unfold Instr.checkKey
  simp [run_underlying ht, Result.andThen]
def mapGet (m : List (Nat × Value)) (k : Nat) : Option Value := (m.findIdx? (fun x => x.1 == k)).bind fun j => (m[j]?).map (·.2)
theorem map_lookup {t k e : TypeId} (ht : P.underlying t = some (.map k e)) (hk : P.underlying k = some (.int .u32)) {w : World} {z : Value} (hz : (zeroValue e).run P w = .ok z w) {b : Nat} {m : List (Nat × Value)} (h : MapAt w b m) (key : Nat) :
    (Instr.lookup t (.map (some b)) (.int .u32 (key : Nat)) false).run P w = .ok ((mapGet m key).getD z) w := by
  obtain ⟨es, clock, hb, he, _⟩ := h
  have hf := find_key hk (w := w) key he
  have hc := check_key hk (w := w) es.isEmpty key
  unfold mapGet
  unfold Instr.lookup
  simp only [Sem.run_bind, run_underlying ht, Result.andThen_ok, MapKept.run_getObj_map hb, Sem.run_pure, hc, hf]
  cases hq : m.findIdx? (fun x => x.1 == key) with
  | none => simp [hz, Result.andThen]
  | some j =>
    have hj := (List.findIdx?_eq_some_iff_findIdx_eq.1 hq).1
    simp [List.getElem?_eq_getElem hj, Result.andThen]
theorem wpList_lookup_at {w : World} {ops : Array Oper} {rest : List Oper} {o : Oper} {a : Act} {Q : Exit → Act → World → Prop}
    (hg : o.guard = none) (m x : Operand) (t : TypeId) (hop : o.op = Op.lookup t m x false) (k e : TypeId) (ht : P.underlying t = some (.map k e)) (hk : P.underlying k = some (.int .u32)) (z : Value) (hz : (zeroValue e).run P w = .ok z w) (b : Nat) (l : List (Nat × Value))
    (hm : a.eval m = .map (some b)) (h : MapAt w b l) (key : Nat) (hx : a.eval x = .int .u32 (key : Nat)) (v : Value) (hv : (mapGet l key).getD z = v) (hK : wpList P ops Q rest (a.put o.dst v) w) : wpList P ops Q (o :: rest) a w := by
  refine wpList_plain hg fun K' hK' => ?_
  have hrun := map_lookup ht hk hz h key
  rw [hv] at hrun
  unfold Oper.wp
  simp [execOp, hop, hm, hx, hrun, Result.andThen]
  exact hK' _ _ hK
theorem map_push {t k e : TypeId} (ht : P.underlying t = some (.map k e)) (hk : P.underlying k = some (.int .u32)) {w : World} {b : Nat} {m : List (Nat × Value)} (h : MapAt w b m) (key : Nat) (val : Value) (hn : mapGet m key = none) :
    ∃ w', (Instr.mapUpdate t (.map (some b)) (.int .u32 (key : Nat)) val).run P w = .ok () w' ∧ MapAt w' b (m ++ [(key, val)]) ∧ Chg [b] w w' := by
  obtain ⟨es, clock, hb, he, hnd, hbo⟩ := h
  have hf := find_key hk (w := w) key he
  have hc := check_key hk (w := w) false key
  have hq : m.findIdx? (fun x => x.1 == key) = none := by
    cases hq : m.findIdx? (fun x => x.1 == key) with
    | none => rfl
    | some j =>
      have hj := (List.findIdx?_eq_some_iff_findIdx_eq.1 hq).1
      unfold mapGet at hn
      rw [hq] at hn
      simp [List.getElem?_eq_getElem hj] at hn
  rw [hq] at hf
  have hl := (Array.getElem?_eq_some_iff.1 hb).1
  refine ⟨{ w with heap := w.heap.setIfInBounds b (.map (es.push { key := .int .u32 (key : Nat), val := val, born := clock }) (clock + 1)) }, ?_, ⟨es.push { key := .int .u32 (key : Nat), val := val, born := clock }, clock + 1, ?_, ?_, ?_, ?_⟩, ?_⟩
  · unfold Instr.mapUpdate
    simp only [Sem.run_bind, run_underlying ht, Result.andThen_ok, MapKept.run_getObj_map hb, Sem.run_pure, hc, hf, Option.bind_none]
    exact MapKept.run_setObj_map _ hb
  · simp [Array.getElem?_setIfInBounds, hl]
  · simp [he]
  · rw [Array.toList_push, List.map_append]
    refine List.nodup_append.2 ⟨hnd, by simp, fun a ha b hb => ?_⟩
    obtain ⟨e, he1, rfl⟩ := List.mem_map.1 ha
    simp at hb
    subst hb
    have := hbo e he1
    omega
  · intro e he1
    rw [Array.toList_push] at he1
    rcases List.mem_append.1 he1 with h1 | h1
    · have := hbo e h1; omega
    · simp at h1; subst h1; simp
  · exact ⟨rfl, rfl, rfl, by simp, fun i hi hn => by simp only [Array.getElem?_setIfInBounds]; rw [if_neg]; intro h; subst h; exact hn (by simp)⟩
theorem map_same {t k e : TypeId} (ht : P.underlying t = some (.map k e)) (hk : P.underlying k = some (.int .u32)) {w : World} {b : Nat} {m : List (Nat × Value)} (h : MapAt w b m) (key : Nat) (val : Value) (hn : mapGet m key = some val) :
    ∃ w', (Instr.mapUpdate t (.map (some b)) (.int .u32 (key : Nat)) val).run P w = .ok () w' ∧ MapAt w' b m ∧ Chg [b] w w' := by
  obtain ⟨es, clock, hb, he, hnd, hbo⟩ := h
  have hf := find_key hk (w := w) key he
  have hc := check_key hk (w := w) false key
  have hl := (Array.getElem?_eq_some_iff.1 hb).1
  unfold mapGet at hn
  cases hq : m.findIdx? (fun x => x.1 == key) with
  | none => rw [hq] at hn; simp at hn
  | some j =>
    rw [hq] at hn hf
    obtain ⟨hj, hj2⟩ := List.findIdx?_eq_some_iff_findIdx_eq.1 hq
    have hkey : m[j].1 = key := by
      have := (List.findIdx?_eq_some_iff_getElem.1 hq).2.1
      simpa using this
    simp only [Option.bind_some, List.getElem?_eq_getElem hj, Option.map_some, Option.some.injEq] at hn hf
    have hes : es.toList.length = m.length := by simpa using congrArg List.length he
    have hje : j < es.size := by have := hes; simp at this; omega
    have hent : es[j].key = .int .u32 (key : Nat) ∧ es[j].val = val := by
      have h1 := congrArg (fun l => l[j]?) he
      simp only [List.getElem?_map, List.getElem?_eq_getElem hj, Option.map_some] at h1
      rw [List.getElem?_eq_getElem (by simpa using hje)] at h1
      simp only [Option.map_some, Option.some.injEq, Prod.mk.injEq, Array.getElem_toList] at h1
      exact ⟨by rw [h1.1, hkey], by rw [h1.2, hn]⟩
    have hst : (Instr.keyThatStays es[j].key (.int .u32 (key : Nat))).run P w = .ok (.int .u32 (key : Nat)) w := by
      rw [hent.1]; simp [Instr.keyThatStays, Instr.sameBits]
    refine ⟨{ w with heap := w.heap.setIfInBounds b (.map (es.modify j fun e => { e with key := .int .u32 (key : Nat), val := val }) clock) }, ?_, ⟨(es.modify j fun e => { e with key := .int .u32 (key : Nat), val := val }), clock, ?_, ?_, ?_, ?_⟩, ?_⟩
    · unfold Instr.mapUpdate
      simp only [Sem.run_bind, run_underlying ht, Result.andThen_ok, MapKept.run_getObj_map hb, Sem.run_pure, hc, hf]
      simp only [Array.getElem?_eq_getElem hje, Option.map_some, Option.getD_some, Sem.run_bind, hst, Result.andThen_ok]
      exact MapKept.run_setObj_map _ hb
    · simp [Array.getElem?_setIfInBounds, hl]
    · rw [← he]
      apply List.ext_getElem?
      intro i
      simp only [List.getElem?_map, Array.getElem?_toList, Array.getElem?_modify]
      by_cases hi : j = i
      · subst hi
        simp only [if_true, Array.getElem?_eq_getElem hje, Option.map_some, hent.1, hent.2]
      · simp [hi]
    · have hbe : ((es.modify j fun e => { e with key := .int .u32 (key : Nat), val := val }).toList.map (·.born)) = es.toList.map (·.born) := by
        apply List.ext_getElem?
        intro i
        simp only [List.getElem?_map, Array.getElem?_toList, Array.getElem?_modify]
        by_cases hi : j = i
        · subst hi
          simp [Array.getElem?_eq_getElem hje]
        · simp [hi]
      rw [hbe]; exact hnd
    · intro e he1
      obtain ⟨i, hi, rfl⟩ := List.getElem_of_mem he1
      simp only [Array.length_toList, Array.size_modify] at hi
      simp only [Array.getElem_toList, Array.getElem_modify]
      have h9 := hbo es[i] (by simp)
      split
      · exact h9
      · exact h9
    · exact ⟨rfl, rfl, rfl, by simp, fun i hi hn => by simp only [Array.getElem?_setIfInBounds]; rw [if_neg]; intro h; subst h; exact hn (by simp)⟩
theorem wpList_update_at {w : World} {ops : Array Oper} {rest : List Oper} {o : Oper} {a : Act} {Q : Exit → Act → World → Prop}
    (hg : o.guard = none) (m x v : Operand) (t : TypeId) (hop : o.op = Op.mapUpdate t m x v) (b key : Nat) (val : Value) (l' : List (Nat × Value))
    (hm : a.eval m = .map (some b)) (hx : a.eval x = .int .u32 (key : Nat)) (hv : a.eval v = val)
    (h : ∃ w', (Instr.mapUpdate t (.map (some b)) (.int .u32 (key : Nat)) val).run P w = .ok () w' ∧ MapAt w' b l' ∧ Chg [b] w w')
    (hK : ∀ mt, MapAt (chg [b] w mt) b l' → wpList P ops Q rest (a.put o.dst undef) (chg [b] w mt)) : wpList P ops Q (o :: rest) a w := by
  refine wpList_plain hg fun K' hK' => ?_
  obtain ⟨w', hrun, h1, h2⟩ := h
  obtain ⟨mt, rfl⟩ := chg_of h2
  unfold Oper.wp
  simp [execOp, hop, hm, hx, hv, hrun, Result.andThen]
  exact hK' _ _ (hK mt h1)
theorem map_len {t k e : TypeId} (ht : P.underlying t = some (.map k e)) {w : World} {b : Nat} {m : List (Nat × Value)} (h : MapAt w b m) (r : TypeId) :
    (Builtin.len_ #[t] r #[.map (some b)]).run P w = .ok (.int .i64 (m.length : Nat)) w := by
  obtain ⟨es, clock, hb, he, _⟩ := h
  have hes : es.toList.length = m.length := by simpa using congrArg List.length he
  have hes' : es.size = m.length := by simpa using hes
  simp [Builtin.len_, run_underlying ht, MapKept.run_getObj_map hb, hes', goInt, Result.andThen]
end
end
section
open Go.RowKit

theorem sl_flat {α : Type} {sz : Nat} {cells : α → List Value} {w : World} {ad : Addr} {cap : Nat} {xs : List α} (hc : ∀ y, (cells y).length = sz) (hpos : 0 < sz) (hs : Sl sz cells w (some ad) cap xs) : ∀ j u, (flat cells xs)[j]? = some u → w.cell? (ad.add j) = some u := by
  intro j u hu
  have hfl : (flat cells xs).length = xs.length * sz := flat_length hc xs
  have hj : j < xs.length * sz := by rw [← hfl]; exact (List.getElem?_eq_some_iff.1 hu).1
  have hq : j / sz < xs.length := Nat.div_lt_of_lt_mul (by rw [Nat.mul_comm]; exact hj)
  obtain ⟨b, off, h, hb, hcell⟩ := hs.rec_ (j / sz) xs[j / sz] (List.getElem?_eq_getElem hq)
  injection h with h
  have hm : j % sz < sz := Nat.mod_lt _ hpos
  have hm2 : j % sz < (cells (xs[j / sz]'hq)).length := by rw [hc (xs[j / sz]'hq)]; exact hm
  obtain ⟨c, hu'⟩ : ∃ c, (cells (xs[j / sz]'hq))[j % sz]? = some c := ⟨_, List.getElem?_eq_getElem hm2⟩
  have hf := flat_at hc xs (j / sz) xs[j / sz] (List.getElem?_eq_getElem hq) _ _ hu'
  have hj2 : j / sz * sz + j % sz = j := by rw [Nat.mul_comm]; exact Nat.div_add_mod j sz
  rw [hj2, hu] at hf
  have := hcell _ _ hu'
  rw [← hf, Nat.add_assoc, hj2] at this
  rw [h, Go.WideShapes.add_plain]; exact this

section
variable {P : Program} {t e : TypeId} {sz bytes : Nat} {α : Type} {cells : α → List Value} {w : World}
theorem wpList_append_full {ops : Array Oper} {rest : List Oper} {o : Oper} {a : Act} {Q : Exit → Act → World → Prop} (he : ElemOf P t e sz bytes) {ys xs : List α}
    (hc : ∀ y, (cells y).length = sz) (h1c : ∀ y, ∀ u ∈ cells y, u.oneCell' = true) (hgd : o.guard = none) (s x : Operand)
    (ho : o.op = .call { callee := .builtin .append, args := #[s, x], argTypes := #[t, t] })
    {ao : Option Addr} {cap : Nat} (hsv : a.eval s = .slice ao ys.length cap) (hys : Sl sz cells w ao cap ys) (hfull : cap < ys.length + xs.length) {ad : Addr} {c2 : Nat} (hxv : a.eval x = .slice (some ad) xs.length c2) (hxs : Sl sz cells w (some ad) c2 xs)
    (hlen : ys.length + xs.length ≤ maxLen) (hby : (ys.length + xs.length) * bytes ≤ 140737488355328)
    (h : ∀ v' m, Own w.heap.size e sz cells (over w m) v' (ys ++ xs) → wpList P ops Q rest (a.put o.dst v') (over w m)) :
    wpList P ops Q (o :: rest) a w := by
  obtain ⟨i, z, g1, g2, g3, g4, g5⟩ := he.info
  refine wpList_append_grows w hgd s x t ho e i z sz bytes he.ht g1 g2 g3 g4 g5 he.pos ao ys.length cap (flat cells ys) hsv ?_ (flat_length hc ys) ?_ ad xs.length c2 (flat cells xs) hxv (flat_length hc xs) (sl_flat hc he.pos hxs) ?_ hfull hlen hby ?_
  · intro hn
    have h0 := hys.nul hn
    refine ⟨?_, h0⟩
    have := hys.le
    omega
  · intro b hb
    subst hb
    exact sl_flat hc he.pos hys
  · intro u hu
    obtain ⟨y, _, hy⟩ := List.mem_flatMap.1 hu
    exact h1c y u hy
  · intro v' w' hown hg
    obtain ⟨m, rfl⟩ : ∃ m, w' = over w m := over_of ⟨hg.os, hg.tape, hg.output, hg.size, fun k hk => hg.block k hk (by simp)⟩
    refine h v' m ?_
    unfold Own
    rw [flat_append, List.length_append]
    exact hown
end
end
section
open Go.RowKit

def ics (n : Nat) : List Value := [.int .i64 (n : Nat)]
theorem ics_len (n : Nat) : (ics n).length = 1 := rfl
theorem ics_one (n : Nat) : ∀ u ∈ ics n, u.oneCell' = true := by intro u hu; simp [ics] at hu; subst hu; rfl
theorem int_elem : ElemOf Tryz.prog 117 3 1 8 := elemOf (z := .int .i64 0) (by kernel_rfl) (by kernel_rfl) rfl (by decide)
abbrev OwnI (base : Nat) (w : World) (v : Value) (l : List Nat) : Prop := Own base 3 1 ics w v l
abbrev SlI (w : World) (a : Option Addr) (cap : Nat) (xs : List Nat) : Prop := Sl 1 ics w a cap xs
theorem SlI.at_ {w : World} {a : Option Addr} {cap : Nat} {xs : List Nat} (h : SlI w a cap xs) {k : Nat} (hk : k < xs.length) :
    ∃ b off, a = some ⟨b, off, none⟩ ∧ b < w.heap.size ∧ w.cell? ⟨b, off + k, none⟩ = some (.int .i64 (xs[k] : Nat)) := by
  obtain ⟨b, off, rfl, hb, hcell⟩ := h.rec_ k xs[k] (List.getElem?_eq_getElem hk)
  have := hcell 0 _ rfl
  rw [Nat.mul_one] at this
  exact ⟨b, off, rfl, hb, this⟩
def endsK (xs : List Sm) (k : Nat) : List Nat := (List.range k).map fun i => (bitsC En.zero (xs.take (i + 1))).length
theorem endsK_snoc (xs : List Sm) (k : Nat) : endsK xs (k + 1) = endsK xs k ++ [(bitsC En.zero (xs.take (k + 1))).length] := by simp [endsK, List.range_succ]
theorem endsK_len (xs : List Sm) (k : Nat) : (endsK xs k).length = k := by simp [endsK]
theorem endsK_at (xs : List Sm) {k i : Nat} (h : i < (endsK xs k).length) : (endsK xs k)[i] = (bitsC En.zero (xs.take (i + 1))).length := by simp [endsK]
end
section
open Go.RowKit

structure Prt where
  ba : Option Addr
  bc : Nat
  L : List Bool
  ea : Option Addr
  ec : Nat
  us : List Nat
  e : En
  cl : Bool
def Prt.cs (p : Prt) : List Value := [.slice p.ba (pack p.L).length p.bc, .int .i64 (p.L.length : Nat), .slice p.ea p.us.length p.ec, .int .i64 p.e.n, .int .i64 p.e.last, .int .i64 p.e.delta, .bool p.e.val.has, .int .u64 (p.e.val.prev : Nat), .int .u8 (p.e.val.lead : Nat), .int .u8 (p.e.val.width : Nat), .bool p.cl]
theorem Prt.cs_len (p : Prt) : p.cs.length = 11 := rfl
theorem Prt.cs_one (p : Prt) : ∀ u ∈ p.cs, u.oneCell' = true := by intro u hu; simp [Prt.cs] at hu; rcases hu with rfl | rfl | rfl | rfl | rfl | rfl | rfl | rfl | rfl | rfl | rfl <;> rfl
theorem part_elem : ElemOf Tryz.prog 182 123 11 112 := elemOf (z := .agg #[.slice none 0 0, .int .i64 0, .slice none 0 0, .int .i64 0, .int .i64 0, .int .i64 0, .bool false, .int .u64 0, .int .u8 0, .int .u8 0, .bool false]) (by kernel_rfl) (by kernel_rfl) rfl (by decide)
abbrev OwnP (base : Nat) (w : World) (v : Value) (l : List Prt) : Prop := Own base 123 11 Prt.cs w v l
def blk? : Option Addr → List Nat
  | some a => [a.block]
  | none => []
structure PrtOk (base : Nat) (w : World) (p : Prt) : Prop where
  b : SlB w p.ba p.bc (pack p.L)
  e : SlI w p.ea p.ec p.us
  lo : ∀ k ∈ blk? p.ba ++ blk? p.ea, base ≤ k ∧ k < w.heap.size
structure PrtIs (p : Prt) (c : List Sm) (b : Bool) : Prop where
  L : p.L = bitsC En.zero c
  us : p.us = endsK c c.length
  e : p.e = knowC En.zero c
  cl : p.cl = b
theorem PrtOk.chg {base : Nat} {w w' : World} {p : Prt} {F : List Nat} (h : PrtOk base w p) (hc : Chg F w w') (hd : ∀ k ∈ blk? p.ba ++ blk? p.ea, k ∉ F) : PrtOk base w' p :=
  ⟨Sl.chg h.b hc (fun ad ha => hd _ (by rw [ha]; simp [blk?])), Sl.chg h.e hc (fun ad ha => hd _ (by rw [ha]; simp [blk?])), fun k hk => ⟨(h.lo k hk).1, Nat.lt_of_lt_of_le (h.lo k hk).2 hc.size⟩⟩

structure Se where
  id : Nat
  sp : Nat
  v : Value
  ps : List Prt
  s : Sr
def Se.fs (x : Se) : List Nat := x.sp :: x.v.ownBlock.toList
def Se.ds (x : Se) : List Nat := x.ps.flatMap fun p => blk? p.ba ++ blk? p.ea
structure SeIs (ps : List Prt) (s : Sr) : Prop where
  len : ps.length = s.cl.length + 1
  cl : ∀ k, (h : k < s.cl.length) → PrtIs (ps[k]'(by omega)) s.cl[k] true
  op : PrtIs (ps[s.cl.length]'(by omega)) s.op false
structure SeAt (base : Nat) (w : World) (x : Se) : Prop where
  blk : Blk w x.sp [x.v, .int .i64 x.s.ahead, .bool x.s.some] 184
  row : OwnP base w x.v x.ps
  lo : base ≤ x.sp
  ne : x.v.ownBlock ≠ some x.sp
  pts : ∀ p ∈ x.ps, PrtOk base w p
  is_ : SeIs x.ps x.s
  ok : SrOk x.s
  apart : ∀ k ∈ x.ds, k ∉ x.fs
theorem SeAt.chg {base : Nat} {w w' : World} {x : Se} {F : List Nat} (h : SeAt base w x) (hc : Chg F w w') (hf : ∀ k ∈ x.fs, k ∉ F) (hd : ∀ k ∈ x.ds, k ∉ F) : SeAt base w' x :=
  ⟨Blk.chg h.blk hc (hf _ (by simp [Se.fs])), Own.chg h.row hc (fun g hg => hf _ (by simp [Se.fs, hg])), h.lo, h.ne, fun p hp => PrtOk.chg (h.pts p hp) hc (fun k hk => hd k (List.mem_flatMap.2 ⟨p, hp, hk⟩)), h.is_, h.ok, h.apart⟩
theorem SeAt.flt {base : Nat} {w : World} {x : Se} (h : SeAt base w x) : ∀ k ∈ x.fs, base ≤ k ∧ k < w.heap.size := by
  intro k hk
  rcases List.mem_cons.1 hk with rfl | hk
  · exact ⟨h.lo, h.blk.lt⟩
  · exact Own.lt h.row (by simpa using hk)
theorem SeAt.dlt {base : Nat} {w : World} {x : Se} (h : SeAt base w x) : ∀ k ∈ x.ds, base ≤ k ∧ k < w.heap.size := by
  intro k hk
  obtain ⟨p, hp, hk⟩ := List.mem_flatMap.1 hk
  exact (h.pts p hp).lo k hk

structure BkAt (base : Nat) (w : World) (b n sz mb : Nat) (L : List Se) : Prop where
  blk : Blk w b [.int .i64 (n : Nat), .int .i64 (sz : Nat), .map (some mb)] 112
  map : MapAt w mb (L.map fun x => (x.id, .pointer (some ⟨x.sp, 0, none⟩)))
  ser : ∀ x ∈ L, SeAt base w x
  sep : L.Pairwise fun x y => (∀ k ∈ x.fs, k ∉ y.fs ∧ k ∉ y.ds) ∧ ∀ k ∈ y.fs, k ∉ x.ds
  hd : ∀ x ∈ L, mb ∉ x.fs ∧ b ∉ x.fs ∧ mb ∉ x.ds ∧ b ∉ x.ds
  ne : b ≠ mb
  lo : base ≤ b ∧ base ≤ mb
  ids : (L.map (·.id)).Nodup
  id32 : ∀ x ∈ L, x.id < 4294967296
  op : ∀ x ∈ L, x.s.op.length < sz
abbrev bkOf (L : List Se) : List (Nat × Sr) := L.map fun x => (x.id, x.s)
def bkF (mb : Nat) (L : List Se) : List Nat := mb :: L.flatMap Se.fs
theorem BkAt.chg {base : Nat} {w w' : World} {b n sz mb : Nat} {L : List Se} {F : List Nat} (h : BkAt base w b n sz mb L) (hc : Chg F w w') (hF : ∀ k ∈ F, k < base ∨ w.heap.size ≤ k) : BkAt base w' b n sz mb L := by
  have key : ∀ k, base ≤ k → k < w.heap.size → k ∉ F := fun k h1 h2 hm => by have := hF k hm; omega
  refine ⟨Blk.chg h.blk hc (key _ h.lo.1 h.blk.lt), MapAt.chg h.map hc (key _ h.lo.2 h.map.lt), fun x hx => ?_, h.sep, h.hd, h.ne, h.lo, h.ids, h.id32, h.op⟩
  have hs := h.ser x hx
  exact SeAt.chg hs hc (fun k hk => key k (hs.flt k hk).1 (hs.flt k hk).2) (fun k hk => key k (hs.dlt k hk).1 (hs.dlt k hk).2)
theorem BkAt.on {base : Nat} {w : World} {b n sz mb : Nat} {L : List Se} (h : BkAt base w b n sz mb L) (e : World) : BkAt base (over w e) b n sz mb L := h.chg ((Chg.refl [] w).on e) (by simp)
theorem BkAt.alloc {base : Nat} {w : World} {b n sz mb : Nat} {L : List Se} (h : BkAt base w b n sz mb L) (o : Obj) : BkAt base (w.alloc o) b n sz mb L := h.chg ((Chg.refl [] w).alloc o) (by simp)
theorem BkAt.drew {base : Nat} {w : World} {b n sz mb : Nat} {L : List Se} (h : BkAt base w b n sz mb L) : BkAt base w.drew b n sz mb L := h.chg (Chg.refl [] w).drew (by simp)
theorem BkAt.get {base : Nat} {w : World} {b n sz mb : Nat} {L : List Se} (h : BkAt base w b n sz mb L) {i : Nat} (hi : i < L.length) : mapGet (L.map fun x => (x.id, Value.pointer (some ⟨x.sp, 0, none⟩))) L[i].id = some (.pointer (some ⟨L[i].sp, 0, none⟩)) := by
  have hq : (L.map fun x => (x.id, Value.pointer (some ⟨x.sp, 0, none⟩))).findIdx? (fun x => x.1 == L[i].id) = some i := by
    rw [List.findIdx?_eq_some_iff_getElem]
    refine ⟨by simpa using hi, by simp, ?_⟩
    intro j hj
    simp only [List.getElem_map, Bool.not_eq_true, beq_eq_false_iff_ne]
    have hnd := h.ids
    intro he
    have := (List.pairwise_iff_getElem.1 hnd) j i (by simp; omega) (by simpa using hi) hj
    simp at this
    exact this he
  unfold mapGet
  rw [hq]
  simp [hi]
theorem BkAt.none_ {base : Nat} {w : World} {b n sz mb : Nat} {L : List Se} (h : BkAt base w b n sz mb L) {id : Nat} (hi : ∀ x ∈ L, x.id ≠ id) : mapGet (L.map fun x => (x.id, Value.pointer (some ⟨x.sp, 0, none⟩))) id = none := by
  have hq : (L.map fun x => (x.id, Value.pointer (some ⟨x.sp, 0, none⟩))).findIdx? (fun x => x.1 == id) = none := by
    rw [List.findIdx?_eq_none_iff]
    intro y hy
    obtain ⟨x, hx, rfl⟩ := List.mem_map.1 hy
    simp [hi x hx]
  unfold mapGet
  rw [hq]; rfl
end
section
open Go.RowKit
attribute [local go_sem] over_drew chg_drew

structure SeO (w : World) (x : Se) (g cap c : Nat) : Prop where
  hv : x.v = .slice (some ⟨g, 0, none⟩) (c + 1) cap
  hl : x.ps.length = c + 1
  hc : x.s.cl.length = c
  lt : g < w.heap.size
  cell : ∀ i p, x.ps[i]? = some p → ∀ j u, p.cs[j]? = some u → w.cell? ⟨g, i * 11 + j, none⟩ = some u
  free : ∀ j, w.frozen? ⟨g, j, none⟩ = false
theorem SeAt.open_ {base : Nat} {w : World} {x : Se} (h : SeAt base w x) : ∃ g cap c, SeO w x g cap c := by
  have hl := h.is_.len
  obtain ⟨g, cap, hv, hb, hg, hcell, hfr⟩ := Own.open_ Prt.cs_len h.row (by omega)
  exact ⟨g, cap, x.s.cl.length, by rw [hv, hl], hl, rfl, hg, hcell, fun j => (hfr j)⟩
structure PrtO (w : World) (g i : Nat) (p : Prt) : Prop where
  r0 : w.cell? ⟨g, i * 11, none⟩ = some (.slice p.ba (pack p.L).length p.bc)
  r1 : w.cell? ⟨g, i * 11 + 1, none⟩ = some (.int .i64 (p.L.length : Nat))
  r2 : w.cell? ⟨g, i * 11 + 2, none⟩ = some (.slice p.ea p.us.length p.ec)
  r3 : w.cell? ⟨g, i * 11 + 3, none⟩ = some (.int .i64 p.e.n)
  r4 : w.cell? ⟨g, i * 11 + 4, none⟩ = some (.int .i64 p.e.last)
  r5 : w.cell? ⟨g, i * 11 + 5, none⟩ = some (.int .i64 p.e.delta)
  r6 : w.cell? ⟨g, i * 11 + 6, none⟩ = some (.bool p.e.val.has)
  r7 : w.cell? ⟨g, i * 11 + 7, none⟩ = some (.int .u64 (p.e.val.prev : Nat))
  r8 : w.cell? ⟨g, i * 11 + 8, none⟩ = some (.int .u8 (p.e.val.lead : Nat))
  r9 : w.cell? ⟨g, i * 11 + 9, none⟩ = some (.int .u8 (p.e.val.width : Nat))
  r10 : w.cell? ⟨g, i * 11 + 10, none⟩ = some (.bool p.cl)
theorem SeO.part {w : World} {x : Se} {g cap c : Nat} (h : SeO w x g cap c) {i : Nat} (hi : i < x.ps.length) : PrtO w g i x.ps[i] := by
  have k := h.cell i _ (List.getElem?_eq_getElem hi)
  exact ⟨k 0 _ rfl, k 1 _ rfl, k 2 _ rfl, k 3 _ rfl, k 4 _ rfl, k 5 _ rfl, k 6 _ rfl, k 7 _ rfl, k 8 _ rfl, k 9 _ rfl, k 10 _ rfl⟩
theorem SeAt.ov {base : Nat} {w W : World} {x : Se} (h : SeAt base w x) (hW : ∃ e, W = over w e) : SeAt base W x := SeAt.chg h (Chg.of_ov hW []) (fun _ _ hm => by cases hm) (fun _ _ hm => by cases hm)
theorem SeO.ov {w W : World} {x : Se} {g cap c : Nat} (h : SeO w x g cap c) (hW : ∃ e, W = over w e) : SeO W x g cap c := by
  obtain ⟨e, rfl⟩ := hW
  exact ⟨h.hv, h.hl, h.hc, by have := h.lt; simp; omega, fun i p hp j u hu => by rw [cell_over _ _ _ _ h.lt]; exact h.cell i p hp j u hu, fun j => by rw [frozen_over _ _ _ _ h.lt]; exact h.free j⟩
def Sr.time (s : Sr) : Int × Bool := if s.op = [] then (s.ahead, s.some) else ((knowC En.zero s.op).last, true)

set_option maxHeartbeats 1000000 in
theorem last_any {base : Nat} {w : World} {x : Se} (h : SeAt base w x) {g cap c : Nat} (ho : SeO w x g cap c) (hb : c ≤ 1000000) :
    Calls Tryz.prog 78 #[.pointer (some ⟨x.sp, 0, none⟩)] w (Ret w (.pointer (some ⟨g, c * 11, none⟩))) := by
  have r0 := h.blk.cell 0 rfl
  rw [ho.hv] at r0
  have l0 := h.blk.lt
  have hg := ho.lt
  go_enter Tryz.func78, Tryz.ntmps78
  go_wp2
  refine wp_region_over (by kernel_rfl) (by kernel_rfl) ?_
  repeat (go_big_quiet_step ((fail)))
  refine wpQuiet_nil ?_
  intro _ hw'
  obtain ⟨nq, rfl⟩ := hw'
  go_wp2
  go_ret
  exact ⟨ovA, rfl⟩

set_option maxHeartbeats 1000000 in
theorem time_any {base : Nat} {w : World} {x : Se} (h : SeAt base w x) {g cap c : Nat} (ho : SeO w x g cap c) (hb : c ≤ 1000000) :
    Calls Tryz.prog 114 #[.pointer (some ⟨x.sp, 0, none⟩)] w (Ret w (.tuple #[.int .i64 x.s.time.1, .bool x.s.time.2])) := by
  have HL := hid (fun W (hW : ∃ e, W = over w e) => last_any (h.ov hW) (ho.ov hW) hb)
  have hcl : c < x.ps.length := by have := ho.hl; omega
  have hp := ho.part hcl
  have his := h.is_.op
  simp only [ho.hc] at his
  have hn := (knowZ h.ok.op.wf (by have := h.ok.op.len; omega)).2.2
  obtain ⟨t1, t2, ht⟩ : ∃ t1 t2, x.s.time = (t1, t2) := ⟨_, _, rfl⟩
  have HT := hid ht
  have HE := hid his.e
  have r3 := hp.r3
  have r4 := hp.r4
  have r0 := h.blk.cell 0 rfl
  rw [ho.hv] at r0
  have r1 := h.blk.cell 1 rfl
  have r2 := h.blk.cell 2 rfl
  have l0 := h.blk.lt
  have hg := ho.lt
  generalize x.ps[c] = p at *
  rw [ht]
  clear ht hp
  by_cases h0 : x.s.op = []
  · have e3 : p.e.n = 0 := by rw [HE.out, hn, h0]; rfl
    have ht := HT.out
    unfold Sr.time at ht
    rw [if_pos h0] at ht
    simp only [Prod.mk.injEq] at ht
    rw [ht.1] at r1
    rw [ht.2] at r2
    rw [e3] at r3
    clear ht h0 e3 his hn
    go_enter Tryz.func114, Tryz.ntmps114
    go_wp2_with (go_at_call 78; (with_reducible refine (HL.out _ ovA).mono ?_); rintro _ _ ⟨⟨e1, rfl⟩, rfl⟩)
    refine wp_region_over (by kernel_rfl) (by kernel_rfl) ?_
    repeat (go_big_quiet_step ((fail)))
    refine wpQuiet_nil ?_
    intro _ hw'
    obtain ⟨nq, rfl⟩ := hw'
    go_wp2
    go_ret2
    exact ⟨ovA, rfl⟩
  · have e3 : 0 < p.e.n := by rw [HE.out, hn]; have := List.length_pos_iff.2 h0; omega
    have ht := HT.out
    unfold Sr.time at ht
    rw [if_neg h0] at ht
    simp only [Prod.mk.injEq] at ht
    rw [← HE.out] at ht
    rw [ht.1] at r4
    rw [← ht.2]
    clear ht h0 his hn r1 r2
    generalize p.e.n = pn at *
    go_enter Tryz.func114, Tryz.ntmps114
    go_wp2_with (go_at_call 78; (with_reducible refine (HL.out _ ovA).mono ?_); rintro _ _ ⟨⟨e1, rfl⟩, rfl⟩)
    go_ret2
    exact ⟨ovA, rfl⟩
def Pl.v (p : Pl) : Value := .agg #[.int .u32 (p.chunk : Nat), .int .u32 (p.bits : Nat), .int .u32 (p.count : Nat)]
theorem fin_ok {base : Nat} {w : World} {x : Se} (h : SeAt base w x) {c : Nat} (hc : x.s.cl.length = c) {p : Prt} (his : PrtIs p x.s.op false) : p.L.length = x.s.fin.bits ∧ p.us.length = x.s.fin.count ∧ x.s.fin.chunk = c ∧ x.s.fin.bits ≤ 3504 ∧ x.s.fin.count ≤ 24 := by
  have hb := bitsZ_len h.ok.op.wf (by have := h.ok.op.len; omega)
  have hl := h.ok.op.len
  refine ⟨?_, ?_, hc, ?_, hl⟩
  · rw [his.L]; show _ = blen _ _; unfold blen; rw [List.take_length]
  · rw [his.us, endsK_len]; rfl
  · show blen _ _ ≤ _; unfold blen; rw [List.take_length]; omega
set_option maxHeartbeats 1000000 in
theorem end_any {base : Nat} {w : World} {x : Se} (h : SeAt base w x) {g cap c : Nat} (ho : SeO w x g cap c) (hb : c ≤ 1000000) :
    Calls Tryz.prog 48 #[.pointer (some ⟨x.sp, 0, none⟩)] w (Ret w x.s.fin.v) := by
  have hcl : c < x.ps.length := by have := ho.hl; omega
  have hp := ho.part hcl
  have his := h.is_.op
  simp only [ho.hc] at his
  obtain ⟨e1, e2, e3, e4, e5⟩ := fin_ok h ho.hc his
  have HL := hid (fun W (hW : ∃ e, W = over w e) => last_any (h.ov hW) (ho.ov hW) hb)
  have r0 := h.blk.cell 0 rfl
  rw [ho.hv] at r0
  have r1 := h.blk.cell 1 rfl
  have r2 := h.blk.cell 2 rfl
  have l0 := h.blk.lt
  have hg := ho.lt
  have q1 := hp.r1
  have q2 := hp.r2
  rw [e1] at q1
  rw [e2] at q2
  obtain ⟨fb, hfb⟩ : ∃ fb, x.s.fin.bits = fb := ⟨_, rfl⟩
  obtain ⟨fc, hfc⟩ : ∃ fc, x.s.fin.count = fc := ⟨_, rfl⟩
  have HV : Hid (x.s.fin.v = .agg #[.int .u32 (c : Nat), .int .u32 (fb : Nat), .int .u32 (fc : Nat)]) := hid (by unfold Pl.v; rw [e3, hfb, hfc])
  rw [HV.out]
  rw [hfb] at q1 e4
  rw [hfc] at q2 e5
  generalize x.ps[c] = p at *
  clear hfb hfc e1 e2 e3 hp his HV
  go_enter Tryz.func48, Tryz.ntmps48
  go_wp2_with (go_at_call 78; (with_reducible refine (HL.out _ ovA).mono ?_); rintro _ _ ⟨⟨e1, rfl⟩, rfl⟩)
  refine M2.wp_region_mix [20] 20 (by kernel_rfl) (by kernel_rfl) (by decide) ?_
  simp only [M2.td]
  with_reducible refine M2.mixL_quiet 20 (by kernel_rfl) ?_
  simp only [M2.td]
  repeat (go_big_quiet_step (fail))
  with_reducible refine wpQuiet_nil ?_
  with_reducible refine M2.mixL_nil ?_
  with_reducible refine M2.mixL_eff (by decide) ?_
  go_wp2_with (fail)
  refine M2.MixQ.mk trivial ?_
  with_reducible refine M2.mixL_nil ?_
  go_wp2_with fail
  (try simp only [Exit.inBlock, Exit.then])
  refine bodyPost_ret (v := ?rv60) ?rh60 rfl ?rp60
  case rh60 => (simp only [results, show Tryz.f48.results = #[.cell 2 42] from rfl]; go_simp; rfl)
  exact ⟨ovA, rfl⟩
end
section
open Go.RowKit
attribute [local go_sem] over_drew chg_drew

abbrev bkMap (L : List Se) : List (Nat × Value) := L.map fun x => (x.id, .pointer (some ⟨x.sp, 0, none⟩))
theorem ptr_zero (w : World) : (zeroValue 110).run Tryz.prog w = .ok (.pointer none) w := by kernel_rfl
def Prt.zero : Prt := ⟨none, 0, [], none, 0, [], En.zero, false⟩
theorem Prt.zero_cs : Prt.zero.cs = [.slice none 0 0, .int .i64 0, .slice none 0 0, .int .i64 0, .int .i64 0, .int .i64 0, .bool false, .int .u64 0, .int .u8 0, .int .u8 0, .bool false] := by
  unfold Prt.zero Prt.cs
  simp only [pack_nil]; rfl
theorem Prt.zero_is : PrtIs Prt.zero [] false := ⟨rfl, rfl, rfl, rfl⟩
theorem wpList_make_part {w : World} {ops : Array Oper} {rest : List Oper} {o : Oper} {a : Act} {Q : Exit → Act → World → Prop} (hg : o.guard = none) (l c : Operand) (hop : o.op = Op.makeSlice 182 l c) (hl : a.eval l = .int .i64 1) (hc : a.eval c = .int .i64 1)
    (h : ∀ m, OwnP w.heap.size (over w m) (.slice (some ⟨w.heap.size, 0, none⟩) 1 1) [Prt.zero] → wpList Tryz.prog ops Q rest (a.put o.dst (.slice (some ⟨w.heap.size, 0, none⟩) 1 1)) (over w m)) : wpList Tryz.prog ops Q (o :: rest) a w := by
  obtain ⟨i, hi⟩ : ∃ i, Tryz.prog.info? 123 = some i ∧ i.zero = some (.agg #[.slice none 0 0, .int .i64 0, .slice none 0 0, .int .i64 0, .int .i64 0, .int .i64 0, .bool false, .int .u64 0, .int .u8 0, .int .u8 0, .bool false]) ∧ i.size = 11 ∧ i.bytes = 112 := by
    obtain ⟨i, h1, h2, h3, h4⟩ := info_parts (show (Tryz.prog.info? 123).map (fun i => (i.zero, i.size, i.bytes)) = some (some (.agg #[.slice none 0 0, .int .i64 0, .slice none 0 0, .int .i64 0, .int .i64 0, .int .i64 0, .bool false, .int .u64 0, .int .u8 0, .int .u8 0, .bool false]), 11, 112) by kernel_rfl)
    exact ⟨i, h1, h2, h3, h4⟩
  obtain ⟨i1, i2, i3, i4⟩ := hi
  refine wpList_make_full w hg l c _ hop w.heap.size 123 i _ 11 part_elem.ht i1 i2 i3 .i64 .i64 1 1 1 hl hc rfl rfl (by rw [i4]; decide) (by unfold maxLen; omega) (Nat.le_refl _) ?_
  intro w' hown hgr
  obtain ⟨m, rfl⟩ : ∃ m, w' = over w m := over_of ⟨hgr.os, hgr.tape, hgr.output, hgr.size, fun k hk => hgr.block k hk (by simp)⟩
  refine h m ?_
  have e : flat Prt.cs [Prt.zero] = (madeCells (Value.agg #[.slice none 0 0, .int .i64 0, .slice none 0 0, .int .i64 0, .int .i64 0, .int .i64 0, .bool false, .int .u64 0, .int .u8 0, .int .u8 0, .bool false]).cells (1 * 11)).toList := by
    unfold flat
    simp only [List.flatMap_cons, List.flatMap_nil, List.append_nil]
    rw [Prt.zero_cs]; kernel_rfl
  unfold OwnP Own
  rw [e]; exact hown
set_option maxRecDepth 100000 in
set_option maxHeartbeats 2000000 in
theorem at_old {base : Nat} {w : World} {b n sz mb : Nat} {L : List Se} (h : BkAt base w b n sz mb L) {i : Nat} (hi : i < L.length) {id : Nat} (hid_ : L[i].id = id) :
    Calls Tryz.prog 46 #[.pointer (some ⟨b, 0, none⟩), .int .u32 (id : Nat)] w (Ret w (.pointer (some ⟨L[i].sp, 0, none⟩))) := by
  have hg := h.get hi
  rw [hid_] at hg
  have hv : (mapGet (bkMap L) id).getD (.pointer none) = .pointer (some ⟨L[i].sp, 0, none⟩) := by rw [hg]; rfl
  have HV := hid hv
  have r0 := h.blk.cell 0 rfl
  have r1 := h.blk.cell 1 rfl
  have r2 := h.blk.cell 2 rfl
  have lb := h.blk.lt
  have HM := hid h.map
  clear hv hg
  generalize L[i].sp = sp at *
  go_enter Tryz.func46, Tryz.ntmps46
  go_wp2_with (at_lookup; refine wpList_lookup_at rfl (.tmp 9) (.tmp 10) 109 rfl 24 110 (by kernel_rfl) (by kernel_rfl) (.pointer none) (ptr_zero _) mb (bkMap L) rfl HM.out id rfl _ HV.out ?_)
  go_ret
  exact ⟨ovA, rfl⟩
def AtNew (w : World) (id : Nat) (en : Ending) (w' : World) : Prop := ∃ x : Se, en = .returned (.pointer (some ⟨x.sp, 0, none⟩)) ∧ (∃ e, w' = over w e) ∧ SeAt w.heap.size w' x ∧ x.s = Sr.zero ∧ x.id = id
set_option maxRecDepth 100000 in
set_option maxHeartbeats 2000000 in
theorem at_new {base : Nat} {w : World} {b n sz mb : Nat} {L : List Se} (h : BkAt base w b n sz mb L) {id : Nat} (hi : ∀ x ∈ L, x.id ≠ id) :
    Calls Tryz.prog 46 #[.pointer (some ⟨b, 0, none⟩), .int .u32 (id : Nat)] w (AtNew w id) := by
  have hv : (mapGet (bkMap L) id).getD (.pointer none) = .pointer none := by rw [h.none_ hi]; rfl
  have HV := hid hv
  have r0 := h.blk.cell 0 rfl
  have r1 := h.blk.cell 1 rfl
  have r2 := h.blk.cell 2 rfl
  have lb := h.blk.lt
  have HM := hid h.map
  clear hv
  go_enter Tryz.func46, Tryz.ntmps46
  go_wp2_with (first | (at_lookup; refine wpList_lookup_at rfl (.tmp 9) (.tmp 10) 109 rfl 24 110 (by kernel_rfl) (by kernel_rfl) (.pointer none) (ptr_zero _) mb (bkMap L) rfl HM.out id rfl _ HV.out ?_) | (at_make; refine wpList_make_part rfl _ _ rfl rfl rfl ?_; intro m hown; have HO := hid hown; clear hown))
  go_ret
  refine ⟨⟨id, w.heap.size + m.heap.size, .slice (some ⟨w.heap.size, 0, none⟩) 1 1, [Prt.zero], Sr.zero⟩, rfl, ovA, ?_, rfl, rfl⟩
  have hg := Own.lt HO.out (g := w.heap.size) rfl
  have hsz : (over w m).heap.size = w.heap.size + m.heap.size := by simp
  have hne : w.heap.size < (over w m).heap.size := hg.2
  refine ⟨Blk.new' (by simp), Own.alloc HO.out _, by simp, fun hh => absurd (Option.some.inj hh) (by show w.heap.size ≠ w.heap.size + m.heap.size; omega), ?_, ⟨rfl, fun k hk => by simp [Sr.zero] at hk, Prt.zero_is⟩, SrOk.zero, by simp [Se.ds, Prt.zero, blk?]⟩
  intro p hp
  simp at hp
  subst hp
  refine ⟨?_, Sl.nil _, by simp [Prt.zero, blk?]⟩
  show SlB _ none 0 (pack [])
  rw [pack_nil]; exact Sl.nil _
end
section
open Go.RowKit
attribute [local go_sem] over_drew chg_drew

theorem MapAt.over {w : World} {b : Nat} {m : List (Nat × Value)} (h : MapAt w b m) (e : World) : MapAt (over w e) b m := h.chg ((Chg.refl [] w).on e) (by simp)
set_option maxRecDepth 100000 in
set_option maxHeartbeats 2000000 in
theorem room_any {base : Nat} {w : World} {b n sz mb : Nat} {L : List Se} (h : BkAt base w b n sz mb L) (id : Nat) (hn : L.length < n) (hn2 : n ≤ 64) :
    Calls Tryz.prog 113 #[.pointer (some ⟨b, 0, none⟩), .int .u32 (id : Nat)] w (Ret w (.int .u16 0)) := by
  obtain ⟨v, hv⟩ : ∃ v, (mapGet (bkMap L) id).getD (.pointer none) = v := ⟨_, rfl⟩
  have hL : ∀ e, (Instr.lookup 109 (.map (some mb)) (.int .u32 (id : Nat)) false).run Tryz.prog (over w e) = .ok v (over w e) := fun e => by
    have := map_lookup (P := Tryz.prog) (t := 109) (k := 24) (e := 110) (by kernel_rfl) (by kernel_rfl) (ptr_zero (over w e)) (h.map.over e) id
    rw [hv] at this; exact this
  have hM : ∀ e r, (Builtin.len_ #[109] r #[.map (some mb)]).run Tryz.prog (over w e) = .ok (.int .i64 (L.length : Nat)) (over w e) := fun e r => by
    have := map_len (P := Tryz.prog) (t := 109) (k := 24) (e := 110) (by kernel_rfl) (h.map.over e) r
    rw [List.length_map] at this; exact this
  have hp : ∃ a, v = .pointer a := by
    rw [← hv]
    unfold mapGet
    cases hq : (bkMap L).findIdx? (fun x => x.1 == id) with
    | none => exact ⟨none, by simp⟩
    | some j =>
      have hj := (List.findIdx?_eq_some_iff_findIdx_eq.1 hq).1
      have hj' : j < L.length := by simpa using hj
      exact ⟨some ⟨L[j].sp, 0, none⟩, by simp [List.getElem?_eq_getElem hj']⟩
  obtain ⟨a, rfl⟩ := hp
  have r0 := h.blk.cell 0 rfl
  have r1 := h.blk.cell 1 rfl
  have r2 := h.blk.cell 2 rfl
  have lb := h.blk.lt
  clear hv
  have hd : ¬ n ≤ L.length := by omega
  cases a with
  | none =>
    go_enter Tryz.func113, Tryz.ntmps113
    go_wp2_with fail
    refine wp_region_over (by kernel_rfl) (by kernel_rfl) ?_
    repeat (go_big_quiet_step ((fail)))
    refine wpQuiet_nil ?_
    intro _ hw'
    obtain ⟨nq, rfl⟩ := hw'
    go_wp2
    go_ret
    exact ⟨ovA, rfl⟩
  | some a =>
    go_enter Tryz.func113, Tryz.ntmps113
    go_wp2_with fail
    refine wp_region_over (by kernel_rfl) (by kernel_rfl) ?_
    repeat (go_big_quiet_step ((fail)))
    refine wpQuiet_nil ?_
    intro _ hw'
    obtain ⟨nq, rfl⟩ := hw'
    go_wp2
    go_ret
    exact ⟨ovA, rfl⟩
set_option maxRecDepth 100000 in
set_option maxHeartbeats 2000000 in
theorem room_there {base : Nat} {w : World} {b n sz mb : Nat} {L : List Se} (h : BkAt base w b n sz mb L) {i : Nat} (hi : i < L.length) {id : Nat} (hid_ : L[i].id = id) :
    Calls Tryz.prog 113 #[.pointer (some ⟨b, 0, none⟩), .int .u32 (id : Nat)] w (Ret w (.int .u16 0)) := by
  have hg := h.get hi
  rw [hid_] at hg
  obtain ⟨sp, hsp⟩ : ∃ sp, L[i].sp = sp := ⟨_, rfl⟩
  rw [hsp] at hg
  have hL : ∀ e, (Instr.lookup 109 (.map (some mb)) (.int .u32 (id : Nat)) false).run Tryz.prog (over w e) = .ok (.pointer (some ⟨sp, 0, none⟩)) (over w e) := fun e => by
    have := map_lookup (P := Tryz.prog) (t := 109) (k := 24) (e := 110) (by kernel_rfl) (by kernel_rfl) (ptr_zero (over w e)) (h.map.over e) id
    rw [hg] at this; exact this
  have r0 := h.blk.cell 0 rfl
  have r1 := h.blk.cell 1 rfl
  have r2 := h.blk.cell 2 rfl
  have lb := h.blk.lt
  clear hg hsp
  go_enter Tryz.func113, Tryz.ntmps113
  go_wp2_with fail
  refine wp_region_over (by kernel_rfl) (by kernel_rfl) ?_
  repeat (go_big_quiet_step ((fail)))
  refine wpQuiet_nil ?_
  intro _ hw'
  obtain ⟨nq, rfl⟩ := hw'
  go_wp2
  go_ret
  exact ⟨ovA, rfl⟩

theorem may_time {base : Nat} {w : World} {x : Se} (h : SeAt base w x) (t : Int) : x.s.may t ↔ ¬ (x.s.time.2 = true ∧ t ≤ x.s.time.1) := by
  unfold Sr.may Sr.time
  split
  · unfold Sr.some
    cases hc : x.s.cl with
    | nil => simp
    | cons a l => simp
  · simp
set_option maxRecDepth 100000 in
set_option maxHeartbeats 2000000 in
theorem may_old {base : Nat} {w : World} {b n sz mb : Nat} {L : List Se} (h : BkAt base w b n sz mb L) (hn : L.length ≤ n) (hn2 : n ≤ 64) {i : Nat} (hi : i < L.length) {id : Nat} (hid_ : L[i].id = id) (hcl : L[i].s.cl.length ≤ 1000000) (t : Int) (v : Nat) :
    Calls Tryz.prog 77 #[.pointer (some ⟨b, 0, none⟩), .int .u32 (id : Nat), smV t v] w (Ret w (.int .u16 (if L[i].s.may t then 0 else 120 : Nat))) := by
  have HR := hid (fun W (hW : ∃ e, W = over w e) => room_there (w := W) (by obtain ⟨e, rfl⟩ := hW; exact h.on e) hi hid_)
  have HA := hid (fun W (hW : ∃ e, W = over w e) => at_old (w := W) (by obtain ⟨e, rfl⟩ := hW; exact h.on e) hi hid_)
  have hs := h.ser L[i] (List.getElem_mem hi)
  obtain ⟨g, cap, c, ho⟩ := hs.open_
  have HT := hid (fun W (hW : ∃ e, W = over w e) => time_any (w := W) (hs.ov hW) (ho.ov hW) (by rw [← ho.hc]; exact hcl))
  have hm := may_time hs t
  generalize L[i] = x at *
  obtain ⟨⟨T, is⟩, htm⟩ : ∃ p, x.s.time = p := ⟨_, rfl⟩
  rw [htm] at hm HT
  obtain ⟨r, hr⟩ : ∃ r, (if x.s.may t then 0 else 120 : Nat) = r := ⟨_, rfl⟩
  rw [hr]
  have HRr := hid hr
  have HM := hid hm
  clear hm hr htm
  cases is with
  | false =>
    obtain rfl : r = 0 := by rw [← HRr.out, if_pos (HM.out.2 (by simp))]
    go_enter Tryz.func77, Tryz.ntmps77
    go_wp2_with (first | (go_at_call 113; (with_reducible refine (HR.out _ ovA).mono ?_); rintro _ _ ⟨⟨e1, rfl⟩, rfl⟩) | (go_at_call 46; (with_reducible refine (HA.out _ ovA).mono ?_); rintro _ _ ⟨⟨e2, rfl⟩, rfl⟩) | (go_at_call 114; (with_reducible refine (HT.out _ ovA).mono ?_); rintro _ _ ⟨⟨e3, rfl⟩, rfl⟩))
    go_ret
    exact ⟨ovA, rfl⟩
  | true =>
    by_cases ht : t ≤ T
    · obtain rfl : r = 120 := by rw [← HRr.out, if_neg (fun hh => HM.out.1 hh ⟨rfl, ht⟩)]
      go_enter Tryz.func77, Tryz.ntmps77
      go_wp2_with (first | (go_at_call 113; (with_reducible refine (HR.out _ ovA).mono ?_); rintro _ _ ⟨⟨e1, rfl⟩, rfl⟩) | (go_at_call 46; (with_reducible refine (HA.out _ ovA).mono ?_); rintro _ _ ⟨⟨e2, rfl⟩, rfl⟩) | (go_at_call 114; (with_reducible refine (HT.out _ ovA).mono ?_); rintro _ _ ⟨⟨e3, rfl⟩, rfl⟩))
      go_ret
      exact ⟨ovA, rfl⟩
    · obtain rfl : r = 0 := by rw [← HRr.out, if_pos (HM.out.2 (by simp; omega))]
      go_enter Tryz.func77, Tryz.ntmps77
      go_wp2_with (first | (go_at_call 113; (with_reducible refine (HR.out _ ovA).mono ?_); rintro _ _ ⟨⟨e1, rfl⟩, rfl⟩) | (go_at_call 46; (with_reducible refine (HA.out _ ovA).mono ?_); rintro _ _ ⟨⟨e2, rfl⟩, rfl⟩) | (go_at_call 114; (with_reducible refine (HT.out _ ovA).mono ?_); rintro _ _ ⟨⟨e3, rfl⟩, rfl⟩))
      go_ret
      exact ⟨ovA, rfl⟩
set_option maxRecDepth 100000 in
set_option maxHeartbeats 2000000 in
theorem may_new {base : Nat} {w : World} {b n sz mb : Nat} {L : List Se} (h : BkAt base w b n sz mb L) (hn : L.length < n) (hn2 : n ≤ 64) {id : Nat} (hi : ∀ x ∈ L, x.id ≠ id) (t : Int) (v : Nat) :
    Calls Tryz.prog 77 #[.pointer (some ⟨b, 0, none⟩), .int .u32 (id : Nat), smV t v] w (Ret w (.int .u16 0)) := by
  have HR := hid (fun W (hW : ∃ e, W = over w e) => room_any (w := W) (by obtain ⟨e, rfl⟩ := hW; exact h.on e) id hn hn2)
  have HA := hid (fun W (hW : ∃ e, W = over w e) => at_new (w := W) (by obtain ⟨e, rfl⟩ := hW; exact h.on e) hi)
  go_enter Tryz.func77, Tryz.ntmps77
  go_wp2_with (first | (go_at_call 113; (with_reducible refine (HR.out _ ovA).mono ?_); rintro _ _ ⟨⟨e1, rfl⟩, rfl⟩) | (go_at_call 46; (with_reducible refine (HA.out _ ovA).mono ?_); rintro _ _ ⟨x, rfl, ⟨e2, rfl⟩, hs, hsz, hxi⟩; obtain ⟨g, cap, c, ho⟩ := hs.open_; have hT := time_any hs ho (by rw [← ho.hc, hsz]; simp [Sr.zero]); rw [hsz] at hT; have HT : Hid (Calls Tryz.prog 114 #[.pointer (some ⟨x.sp, 0, none⟩)] _ (Ret _ (.tuple #[.int .i64 0, .bool false]))) := hid hT; clear hT hs ho hsz) | (go_at_call 114; (with_reducible refine (HT.out).mono ?_); rintro _ _ ⟨⟨e3, rfl⟩, rfl⟩))
  go_ret
  exact ⟨ovA, rfl⟩
end
section
open Go.RowKit
attribute [local go_sem] over_drew chg_drew

abbrev setP (W : World) (g o : Nat) (p : Prt) : World := ((((((((((W.setCell ⟨g, o, none⟩ (.slice p.ba (pack p.L).length p.bc)).setCell ⟨g, o + 1, none⟩ (.int .i64 (p.L.length : Nat))).setCell ⟨g, o + 2, none⟩ (.slice p.ea p.us.length p.ec)).setCell ⟨g, o + 3, none⟩ (.int .i64 p.e.n)).setCell ⟨g, o + 4, none⟩ (.int .i64 p.e.last)).setCell ⟨g, o + 5, none⟩ (.int .i64 p.e.delta)).setCell ⟨g, o + 6, none⟩ (.bool p.e.val.has)).setCell ⟨g, o + 7, none⟩ (.int .u64 (p.e.val.prev : Nat))).setCell ⟨g, o + 8, none⟩ (.int .u8 (p.e.val.lead : Nat))).setCell ⟨g, o + 9, none⟩ (.int .u8 (p.e.val.width : Nat))).setCell ⟨g, o + 10, none⟩ (.bool p.cl)
theorem setP_row {W : World} {base g n cap : Nat} {ps : List Prt} (h : OwnP base W (.slice (some ⟨g, 0, none⟩) n cap) ps) {c : Nat} (hi : c < ps.length) (p : Prt) : OwnP base (setP W g (c * 11) p) (.slice (some ⟨g, 0, none⟩) n cap) (ps.set c p) := Own.setRec Prt.cs_len h hi p
theorem setP_chg (W : World) (g o : Nat) (p : Prt) : Chg [g] W (setP W g o p) :=
  Chg.setCell (Chg.setCell (Chg.setCell (Chg.setCell (Chg.setCell (Chg.setCell (Chg.setCell (Chg.setCell (Chg.setCell (Chg.setCell (Chg.setCell (Chg.refl _ _) (.inl (by simp)) _) (.inl (by simp)) _) (.inl (by simp)) _) (.inl (by simp)) _) (.inl (by simp)) _) (.inl (by simp)) _) (.inl (by simp)) _) (.inl (by simp)) _) (.inl (by simp)) _) (.inl (by simp)) _) (.inl (by simp)) _
abbrev Prt.v (p : Prt) : Value := .agg #[.slice p.ba (pack p.L).length p.bc, .int .i64 (p.L.length : Nat), .slice p.ea p.us.length p.ec, .int .i64 p.e.n, .int .i64 p.e.last, .int .i64 p.e.delta, .bool p.e.val.has, .int .u64 (p.e.val.prev : Nat), .int .u8 (p.e.val.lead : Nat), .int .u8 (p.e.val.width : Nat), .bool p.cl]
theorem zero_new {w : World} {t : TypeId} {n : Nat} (h : n = w.heap.size) : Sl 11 Prt.cs (w.alloc (.cells #[.slice none 0 0, .int .i64 0, .slice none 0 0, .int .i64 0, .int .i64 0, .int .i64 0, .bool false, .int .u64 0, .int .u8 0, .int .u8 0, .bool false] t)) (some ⟨n, 0, none⟩) 1 [Prt.zero] := by
  have k := Sl.one_new (cells := Prt.cs) (sz := 11) (w := w) (e := t) (y := Prt.zero) h
  rw [Prt.zero_cs] at k
  exact k
def Grown (w : World) (base : Nat) (x : Se) (p : Prt) (c : Nat) (en : Ending) (w' : World) : Prop :=
  en = .returned (.tuple #[]) ∧ ∃ v', Chg x.fs w w' ∧ (v'.ownBlock = x.v.ownBlock ∨ ∃ g, v'.ownBlock = some g ∧ w.heap.size ≤ g) ∧
    if p.cl then Blk w' x.sp [v', .int .i64 p.e.last, .bool true] 184 ∧ OwnP base w' v' (x.ps.set c p ++ [Prt.zero])
    else Blk w' x.sp [v', .int .i64 x.s.ahead, .bool x.s.some] 184 ∧ OwnP base w' v' (x.ps.set c p)

theorem Grown.mk0 {w w' : World} {base : Nat} {x : Se} {p : Prt} {c : Nat} (hcl : p.cl = false) (hc : Chg x.fs w w') (hb : Blk w' x.sp [x.v, .int .i64 x.s.ahead, .bool x.s.some] 184) (hr : OwnP base w' x.v (x.ps.set c p)) : Grown w base x p c (.returned (.tuple #[])) w' := by
  refine ⟨rfl, x.v, hc, .inl rfl, ?_⟩
  rw [if_neg (by rw [hcl]; simp)]
  exact ⟨hb, hr⟩
theorem Grown.mk1 {w w' : World} {base : Nat} {x : Se} {p : Prt} {c : Nat} {v' : Value} (hcl : p.cl = true) (hc : Chg x.fs w w') (hv : v'.ownBlock = x.v.ownBlock ∨ ∃ g, v'.ownBlock = some g ∧ w.heap.size ≤ g) (hb : Blk w' x.sp [v', .int .i64 p.e.last, .bool true] 184) (hr : OwnP base w' v' (x.ps.set c p ++ [Prt.zero])) : Grown w base x p c (.returned (.tuple #[])) w' := by
  refine ⟨rfl, v', hc, hv, ?_⟩
  rw [if_pos hcl]
  exact ⟨hb, hr⟩
set_option maxRecDepth 100000 in
set_option maxHeartbeats 4000000 in
theorem grow_any {base : Nat} {w : World} {x : Se} (h : SeAt base w x) {g cap c : Nat} (ho : SeO w x g cap c) (hb : c ≤ 1000) (hbw : base ≤ w.heap.size) (p : Prt) :
    Calls Tryz.prog 81 #[.pointer (some ⟨x.sp, 0, none⟩), p.v] w (Grown w base x p c) := by
  have HL := hid (fun W (hW : ∃ e, W = over w e) => last_any (h.ov hW) (ho.ov hW) (by omega))
  have hcl : c < x.ps.length := by have := ho.hl; omega
  have hrow := h.row
  have hfs : x.fs = [x.sp, g] := by unfold Se.fs; rw [ho.hv]; rfl
  have hne : x.sp ≠ g := by have := h.ne; rw [ho.hv] at this; intro e; exact this (by rw [e]; rfl)
  have hne2 : g ≠ x.sp := fun e => hne e.symm
  have B0 : Hid (Blk w x.sp [.slice (some ⟨g, 0, none⟩) (c + 1) cap, .int .i64 x.s.ahead, .bool x.s.some] 184) := hid (by rw [← ho.hv]; exact h.blk)
  rw [ho.hv] at hrow
  have HRow := hid hrow
  have hpc := ho.part hcl
  have hg := ho.lt
  have fr := ho.free
  have l0 := h.blk.lt
  have q0 := hpc.r0
  have q1 := hpc.r1
  have q2 := hpc.r2
  have q3 := hpc.r3
  have q4 := hpc.r4
  have q5 := hpc.r5
  have q6 := hpc.r6
  have q7 := hpc.r7
  have q8 := hpc.r8
  have q9 := hpc.r9
  have q10 := hpc.r10
  have HXv := hid ho.hv
  have HFS := hid hfs
  have hpl := ho.hl
  obtain ⟨ah, hah⟩ : ∃ ah, x.s.ahead = ah := ⟨_, rfl⟩
  obtain ⟨sm, hsm⟩ : ∃ sm, x.s.some = sm := ⟨_, rfl⟩
  obtain ⟨sp, hsp⟩ : ∃ sp, x.sp = sp := ⟨_, rfl⟩
  rw [hah, hsm, hsp] at B0
  rw [hsp] at HL HFS hne hne2 l0 ⊢
  generalize x.ps[c] = pc at *
  obtain ⟨ps, hps⟩ : ∃ ps, x.ps = ps := ⟨_, rfl⟩
  rw [hps] at hcl HRow hpl
  have HAH := hid hah
  have HSM := hid hsm
  have HSP := hid hsp
  have HPS := hid hps
  clear hrow hpc h ho hfs hah hsm hsp hps
  obtain ⟨ba, bc, L, ea, ec, us, ⟨n0, n1, n2, ⟨n3, n4, n5, n6⟩⟩, cl⟩ := p
  go_enter Tryz.func81, Tryz.ntmps81
  go_wp2_with fail
  refine M2.wp_region_mix [1, 4] 4 (by kernel_rfl) (by kernel_rfl) (by decide) ?_
  simp only [M2.td]
  with_reducible refine M2.mixL_quiet 1 (by kernel_rfl) ?_
  simp only [M2.td]
  repeat (go_big_quiet_step (fail))
  with_reducible refine wpQuiet_nil ?_
  with_reducible refine M2.mixL_eff (by decide) ?_
  go_wp2_with ((go_at_call 78; (with_reducible refine (HL.out _ ovA).mono ?_); rintro _ _ ⟨⟨e1, rfl⟩, rfl⟩))
  refine M2.MixQ.mk ovA ?_
  with_reducible refine M2.mixL_quiet 2 (by kernel_rfl) ?_
  simp only [M2.td]
  repeat (go_big_quiet_step (fail))
  with_reducible refine wpQuiet_nil ?_
  with_reducible refine M2.mixL_nil ?_
  with_reducible refine M2.mixL_eff (by decide) ?_
  go_wp2_with (fail)
  refine M2.MixQ.mk trivial ?_
  with_reducible refine M2.mixL_nil ?_
  refine gen_w ?_
  intro W1 hW1
  have C1 : Hid (Chg [g] w W1) := hid (by rw [hW1]; exact Chg.on (Chg.alloc (setP_chg w g (c * 11) (⟨ba, bc, L, ea, ec, us, ⟨n0, n1, n2, ⟨n3, n4, n5, n6⟩⟩, cl⟩ : Prt)) _) _)
  have R1 : Hid (OwnP base W1 (.slice (some ⟨g, 0, none⟩) (c + 1) cap) (ps.set c ⟨ba, bc, L, ea, ec, us, ⟨n0, n1, n2, ⟨n3, n4, n5, n6⟩⟩, cl⟩)) := hid (by rw [hW1]; exact Own.over (Own.alloc (setP_row HRow.out hcl (⟨ba, bc, L, ea, ec, us, ⟨n0, n1, n2, ⟨n3, n4, n5, n6⟩⟩, cl⟩ : Prt)) _) _)
  have B1 : Hid (Blk W1 sp [.slice (some ⟨g, 0, none⟩) (c + 1) cap, .int .i64 ah, .bool sm] 184) := hid (by rw [hW1]; exact Blk.on (Blk.alloc (Blk.chg B0.out (setP_chg w g (c * 11) (⟨ba, bc, L, ea, ec, us, ⟨n0, n1, n2, ⟨n3, n4, n5, n6⟩⟩, cl⟩ : Prt)) (by simpa using hne)) _) _)
  have BP : Hid (Blk W1 w.heap.size [.slice ba (pack L).length bc, .int .i64 (L.length : Nat), .slice ea us.length ec, .int .i64 n0, .int .i64 n1, .int .i64 n2, .bool n3, .int .u64 (n4 : Nat), .int .u8 (n5 : Nat), .int .u8 (n6 : Nat), .bool cl] 123) := hid (by rw [hW1]; exact Blk.on (Blk.new' (by simp)) _)
  clear hW1 q0 q1 q2 q3 q4 q5 q6 q7 q8 q9 q10 hg fr l0
  have p4 := BP.out.cell 4 rfl
  have p10 := BP.out.cell 10 rfl
  have lp := BP.out.lt
  have s0 := B1.out.cell 0 rfl
  have s1 := B1.out.cell 1 rfl
  have s2 := B1.out.cell 2 rfl
  have t0 := B1.out.free 0
  have t1 := B1.out.free 1
  have t2 := B1.out.free 2
  have ls := B1.out.lt
  have hws : sp ≠ w.heap.size := by have := B0.out.lt; omega
  cases cl with
  | false =>
    go_wp2_with fail
    go_end0
    refine Grown.mk0 rfl ?_ ?_ ?_
    · rw [HFS.out]; exact Chg.mono C1.out (by simp)
    · rw [HSP.out, HXv.out, HAH.out, HSM.out]; exact B1.out
    · rw [HXv.out, HPS.out]; exact R1.out
  | true =>
    go_wp2_with (
      at_builtin
      refine gen_w ?_
      intro W2 hW2
      have C2 : Hid (Chg [sp] W1 W2) := hid (by rw [hW2]; exact Chg.alloc (Chg.setCell (Chg.setCell (Chg.refl _ _) (.inl (by simp)) _) (.inl (by simp)) _) _)
      have R2 : Hid (OwnP base W2 (.slice (some ⟨g, 0, none⟩) (c + 1) cap) (ps.set c ⟨ba, bc, L, ea, ec, us, ⟨n0, n1, n2, ⟨n3, n4, n5, n6⟩⟩, true⟩)) := hid (Own.chg R1.out C2.out (by intro k hk; simp [Value.ownBlock] at hk; subst hk; simpa using hne2))
      have B2 : Hid (Blk W2 sp [.slice (some ⟨g, 0, none⟩) (c + 1) cap, .int .i64 n1, .bool true] 184) := hid (by rw [hW2]; exact Blk.alloc ((B1.out.set 1 _).set 2 _) _)
      have SZ : Hid (Sl 11 Prt.cs W2 (some ⟨W1.heap.size, 0, none⟩) 1 [Prt.zero]) := hid (by rw [hW2]; exact zero_new (by simp))
      have hb2 : base ≤ W2.heap.size := Nat.le_trans hbw (Nat.le_trans C1.out.size C2.out.size)
      clear hW2
      refine wpList_append' part_elem Prt.cs_len Prt.cs_one rfl (.tmp 23) (.tmp 25) rfl (base := base) (xs := [Prt.zero]) R2.out rfl rfl hb2 SZ.out (by simp only [List.length_append, List.length_singleton, List.length_set]; unfold maxLen; omega) (by simp only [List.length_append, List.length_singleton, List.length_set]; omega) ?_
      intro v' m hown' hv'
      obtain ⟨av, cv, hve, _⟩ := Own.slice Prt.cs_len hown'
      subst hve
      obtain ⟨nl, hnl⟩ : ∃ nl, (ps.set c ⟨ba, bc, L, ea, ec, us, ⟨n0, n1, n2, ⟨n3, n4, n5, n6⟩⟩, true⟩ ++ [Prt.zero]).length = nl := ⟨_, rfl⟩
      rw [hnl] at hown' hv' ⊢
      clear hnl
      refine gen_w ?_
      intro W3 hW3
      have C3 : Hid (Chg [g] W2 W3) := hid (by rw [hW3]; exact chg_chg _ _ _)
      have R3 := hid hown'
      rw [← hW3] at R3
      have B3 := hid (Blk.chg B2.out C3.out (by simpa using hne))
      have HV := hid hv'
      clear hW3 hown' hv' s0 s1 s2 t0 t1 t2 ls p4 p10 lp
      have s0 := B3.out.cell 0 rfl
      have t0 := B3.out.free 0
      have ls := B3.out.lt)
    go_end0
    have C12 : Chg [sp, g] w W2 := Chg.then (Chg.mono C1.out (by simp)) C2.out (by simp)
    have C13 : Chg [sp, g] w W3 := Chg.then C12 C3.out (by simp)
    have hvs : (Value.slice av nl cv).ownBlock ≠ some sp := by
      intro hh
      rcases HV.out with h1 | ⟨g2, h1, h2⟩
      · rw [h1] at hh; exact hne2 (Option.some.inj hh)
      · rw [h1] at hh
        have := Option.some.inj hh
        have := B0.out.lt
        have := C12.size
        omega
    refine Grown.mk1 rfl ?_ ?_ ?_ (v' := .slice av nl cv) ?_
    · rw [HFS.out]; exact Chg.setCell C13 (.inl (by simp)) _
    · rcases HV.out with h1 | ⟨g2, h1, h2⟩
      · exact .inl (by rw [h1, HXv.out])
      · exact .inr ⟨g2, h1, Nat.le_trans C12.size h2⟩
    · rw [HSP.out]; exact B3.out.set 0 _
    · rw [HPS.out]; exact Own.set_ne R3.out hvs _
end
section
open Go.RowKit

def Apart (x y : Se) : Prop := (∀ k ∈ x.fs, k ∉ y.fs ∧ k ∉ y.ds) ∧ ∀ k ∈ y.fs, k ∉ x.ds
theorem Apart.symm {x y : Se} (h : Apart x y) : Apart y x := ⟨fun k hk => ⟨fun h2 => (h.1 k h2).1 hk, h.2 k hk⟩, fun k hk hd => (h.1 k hk).2 hd⟩
theorem BkAt.apart {base : Nat} {w : World} {b n sz mb : Nat} {L : List Se} (h : BkAt base w b n sz mb L) {i j : Nat} (hi : i < L.length) (hj : j < L.length) (hne : i ≠ j) : Apart L[i] L[j] := by
  have hs := List.pairwise_iff_getElem.1 h.sep
  rcases Nat.lt_or_gt_of_ne hne with hl | hl
  · exact hs i j hi hj hl
  · exact Apart.symm (hs j i hj hi hl)
theorem BkAt.upd {base : Nat} {w W : World} {b n sz mb : Nat} {L : List Se} (h : BkAt base w b n sz mb L) {i : Nat} (hi : i < L.length) {x' : Se} (hid : x'.id = L[i].id) (hsp : x'.sp = L[i].sp) (hse : SeAt base W x') (hc : Chg (mb :: L[i].fs) w W) (hm : MapAt W mb (bkMap L))
    (hf : ∀ k ∈ x'.fs, k ∈ L[i].fs ∨ w.heap.size ≤ k) (hd : ∀ k ∈ x'.ds, k ∈ L[i].ds ∨ w.heap.size ≤ k) (hop : x'.s.op.length < sz) : BkAt base W b n sz mb (L.set i x') := by
  have hL := L[i]
  have hmi := List.getElem_mem hi
  have hdi := h.hd _ hmi
  have hsi := h.ser _ hmi
  have hbl := h.blk.lt
  have hml := h.map.lt
  have other : ∀ j, (hj : j < L.length) → j ≠ i → Apart L[j] x' ∧ SeAt base W L[j] := by
    intro j hj hne
    have ha := h.apart hj hi hne
    have hsj := h.ser _ (List.getElem_mem hj)
    have hdj := h.hd _ (List.getElem_mem hj)
    refine ⟨⟨fun k hk => ⟨fun h2 => ?_, fun h2 => ?_⟩, fun k hk h2 => ?_⟩, SeAt.chg hsj hc (fun k hk hm => ?_) (fun k hk hm => ?_)⟩
    · rcases hf k h2 with h3 | h3
      · exact (ha.1 k hk).1 h3
      · have := hsj.flt k hk; omega
    · rcases hd k h2 with h3 | h3
      · exact (ha.1 k hk).2 h3
      · have := hsj.flt k hk; omega
    · rcases hf k hk with h3 | h3
      · exact ha.2 k h3 h2
      · have := hsj.dlt k h2; omega
    · rcases List.mem_cons.1 hm with h3 | h3
      · subst h3; exact hdj.1 hk
      · exact (ha.1 k hk).1 h3
    · rcases List.mem_cons.1 hm with h3 | h3
      · subst h3; exact hdj.2.2.1 hk
      · exact ha.2 k h3 hk
  have hmem : ∀ y ∈ L.set i x', y = x' ∨ ∃ j, ∃ hj : j < L.length, j ≠ i ∧ y = L[j] := by
    intro y hy
    obtain ⟨j, hj, rfl⟩ := List.getElem_of_mem hy
    rw [List.length_set] at hj
    rw [List.getElem_set]
    split
    · exact .inl rfl
    · rename_i hne; exact .inr ⟨j, hj, fun e => hne e.symm, rfl⟩
  refine ⟨Blk.chg h.blk hc ?_, ?_, ?_, ?_, ?_, h.ne, h.lo, ?_, ?_, ?_⟩
  · intro hm2
    rcases List.mem_cons.1 hm2 with h3 | h3
    · exact h.ne h3
    · exact hdi.2.1 h3
  · have e : bkMap (L.set i x') = bkMap L := by
      unfold bkMap
      rw [List.map_set]
      have : (x'.id, Value.pointer (some ⟨x'.sp, 0, none⟩)) = (L.map fun x => (x.id, Value.pointer (some ⟨x.sp, 0, none⟩)))[i]'(by simpa using hi) := by simp [hid, hsp]
      rw [this]
      exact List.set_getElem_self _
    show MapAt W mb (bkMap (L.set i x'))
    rw [e]; exact hm
  · intro y hy
    rcases hmem y hy with rfl | ⟨j, hj, hne, rfl⟩
    · exact hse
    · exact (other j hj hne).2
  · refine List.pairwise_iff_getElem.2 ?_
    intro j k hj hk hjk
    rw [List.length_set] at hj hk
    rw [List.getElem_set, List.getElem_set]
    show Apart _ _
    split
    · rename_i e1
      split
      · rename_i e2; omega
      · rename_i e2; exact Apart.symm (other k hk (fun e => e2 e.symm)).1
    · rename_i e1
      split
      · exact (other j hj (fun e => e1 e.symm)).1
      · exact h.apart hj hk (by omega)
  · intro y hy
    rcases hmem y hy with rfl | ⟨j, hj, hne, rfl⟩
    · refine ⟨fun hk => ?_, fun hk => ?_, fun hk => ?_, fun hk => ?_⟩
      · rcases hf _ hk with h3 | h3
        · exact hdi.1 h3
        · omega
      · rcases hf _ hk with h3 | h3
        · exact hdi.2.1 h3
        · omega
      · rcases hd _ hk with h3 | h3
        · exact hdi.2.2.1 h3
        · omega
      · rcases hd _ hk with h3 | h3
        · exact hdi.2.2.2 h3
        · omega
    · exact h.hd _ (List.getElem_mem hj)
  · have e : (L.set i x').map (·.id) = L.map (·.id) := by
      rw [List.map_set]
      have : x'.id = (L.map (·.id))[i]'(by simpa using hi) := by simp [hid]
      rw [this]; exact List.set_getElem_self _
    rw [e]; exact h.ids
  · intro y hy
    rcases hmem y hy with rfl | ⟨j, hj, hne, rfl⟩
    · rw [hid]; exact h.id32 _ hmi
    · exact h.id32 _ (List.getElem_mem hj)
  · intro y hy
    rcases hmem y hy with rfl | ⟨j, hj, hne, rfl⟩
    · exact hop
    · exact h.op _ (List.getElem_mem hj)
theorem BkAt.push {base : Nat} {w W : World} {b n sz mb : Nat} {L : List Se} (h : BkAt base w b n sz mb L) (hbw : base ≤ w.heap.size) {x' : Se} (hid : ∀ x ∈ L, x.id ≠ x'.id) (h32 : x'.id < 4294967296) (hse : SeAt base W x') (hc : Chg [mb] w W) (hm : MapAt W mb (bkMap L ++ [(x'.id, .pointer (some ⟨x'.sp, 0, none⟩))]))
    (hf : ∀ k ∈ x'.fs, w.heap.size ≤ k) (hd : ∀ k ∈ x'.ds, w.heap.size ≤ k) (hop : x'.s.op.length < sz) : BkAt base W b n sz mb (L ++ [x']) := by
  have hbl := h.blk.lt
  have hml := h.map.lt
  have old : ∀ y ∈ L, SeAt base W y ∧ Apart y x' := by
    intro y hy
    have hs := h.ser y hy
    have hdy := h.hd y hy
    refine ⟨SeAt.chg hs hc (fun k hk hm => ?_) (fun k hk hm => ?_), ⟨fun k hk => ⟨fun h2 => ?_, fun h2 => ?_⟩, fun k hk h2 => ?_⟩⟩
    · simp at hm; subst hm; exact hdy.1 hk
    · simp at hm; subst hm; exact hdy.2.2.1 hk
    · have := hs.flt k hk; have := hf k h2; omega
    · have := hs.flt k hk; have := hd k h2; omega
    · have := hs.dlt k h2; have := hf k hk; omega
  refine ⟨Blk.chg h.blk hc (by simp; exact h.ne), ?_, ?_, ?_, ?_, h.ne, h.lo, ?_, ?_, ?_⟩
  · rw [List.map_append]; exact hm
  · intro y hy
    rcases List.mem_append.1 hy with hy | hy
    · exact (old y hy).1
    · simp at hy; subst hy; exact hse
  · refine List.pairwise_append.2 ⟨h.sep, by simp, ?_⟩
    intro y hy z hz
    simp at hz; subst hz
    exact (old y hy).2
  · intro y hy
    rcases List.mem_append.1 hy with hy | hy
    · exact h.hd y hy
    · simp at hy; subst hy
      exact ⟨fun hk => by have := hf _ hk; omega, fun hk => by have := hf _ hk; omega, fun hk => by have := hd _ hk; omega, fun hk => by have := hd _ hk; omega⟩
  · rw [List.map_append]
    refine List.nodup_append.2 ⟨h.ids, by simp, ?_⟩
    intro a ha c hc2
    simp at hc2; subst hc2
    obtain ⟨y, hy, rfl⟩ := List.mem_map.1 ha
    exact hid y hy
  · intro y hy
    rcases List.mem_append.1 hy with hy | hy
    · exact h.id32 y hy
    · simp at hy; subst hy; exact h32
  · intro y hy
    rcases List.mem_append.1 hy with hy | hy
    · exact h.op y hy
    · simp at hy; subst hy; exact hop
end
section
open Go.RowKit

theorem endsK_app (xs ys : List Sm) {k : Nat} (h : k ≤ xs.length) : endsK (xs ++ ys) k = endsK xs k := by
  unfold endsK
  apply List.map_congr_left
  intro i hi
  rw [List.mem_range] at hi
  rw [List.take_append_of_le_length (by omega)]
theorem prt_snoc {p : Prt} {c : List Sm} {b : Bool} (h : PrtIs p c b) (x : Sm) : p.L ++ (laid p.e x.t x.v).1 = bitsC En.zero (c ++ [x]) ∧ (laid p.e x.t x.v).2 = knowC En.zero (c ++ [x]) ∧ p.us ++ [(bitsC En.zero (c ++ [x])).length] = endsK (c ++ [x]) (c ++ [x]).length := by
  refine ⟨by rw [bitsC_snoc, h.L, h.e], by rw [knowC_snoc, h.e], ?_⟩
  rw [List.length_append, List.length_singleton, endsK_snoc, endsK_app _ _ (Nat.le_refl _), h.us]
  congr 2
  rw [List.take_of_length_le (by simp)]
def Sr.with_ (s : Sr) (c : List Sm) (cl : Bool) : Sr := if cl then ⟨s.cl ++ [c], []⟩ else ⟨s.cl, c⟩
theorem SeIs.grow {ps : List Prt} {s : Sr} (h : SeIs ps s) {c : Nat} (hc : s.cl.length = c) {p : Prt} {cn : List Sm} {b : Bool} (hp : PrtIs p cn b) : SeIs (if b then ps.set c p ++ [Prt.zero] else ps.set c p) (s.with_ cn b) := by
  have hl := h.len
  subst hc
  cases b with
  | false =>
    refine ⟨by simp [Sr.with_, hl], ?_, ?_⟩
    · intro k hk
      have hk' : k < s.cl.length := by simpa [Sr.with_] using hk
      have := h.cl k hk'
      simp only [Sr.with_, Bool.false_eq_true, if_false, List.getElem_set]
      rw [if_neg (by omega)]
      exact this
    · simp only [Sr.with_, Bool.false_eq_true, if_false, List.getElem_set_self]
      exact hp
  | true =>
    refine ⟨by simp [Sr.with_, hl], ?_, ?_⟩
    · intro k hk
      have hk' : k < s.cl.length + 1 := by simpa [Sr.with_] using hk
      simp only [Sr.with_, if_true]
      by_cases hk2 : k < s.cl.length
      · rw [List.getElem_append_left (by simp; omega), List.getElem_append_left hk2, List.getElem_set, if_neg (by omega)]
        exact h.cl k hk2
      · obtain rfl : k = s.cl.length := by omega
        rw [List.getElem_append_left (by simp; omega), List.getElem_set_self]
        simp only [List.getElem_concat_length]
        exact hp
    · simp only [Sr.with_, if_true]
      have hz : (ps.set s.cl.length p ++ [Prt.zero])[(s.cl ++ [cn]).length]'(by simp; omega) = Prt.zero := by
        rw [List.getElem_append_right (by simp; omega)]
        simp [hl]
      rw [hz]
      exact Prt.zero_is
theorem with_ahead {s : Sr} {cn : List Sm} : (s.with_ cn true).ahead = (knowC En.zero cn).last ∧ (s.with_ cn true).some = true ∧ (s.with_ cn false).ahead = s.ahead ∧ (s.with_ cn false).some = s.some := by
  refine ⟨by simp [Sr.with_, Sr.ahead], by simp [Sr.with_, Sr.some], rfl, rfl⟩
theorem with_ok {s : Sr} (h : SrOk s) {cn : List Sm} {b : Bool} (hc : ChkOk cn) (hne : cn ≠ []) : SrOk (s.with_ cn b) := by
  cases b with
  | false => exact ⟨h.cl, hc⟩
  | true =>
    refine ⟨?_, ChkOk.nil⟩
    intro c hm
    rcases List.mem_append.1 hm with h' | h'
    · exact h.cl c h'
    · simp at h'; subst h'; exact ⟨hne, hc⟩
theorem zero_ptok (base : Nat) (w : World) : PrtOk base w Prt.zero := by
  refine ⟨?_, Sl.nil _, by simp [Prt.zero, blk?]⟩
  show SlB _ none 0 (pack [])
  rw [pack_nil]; exact Sl.nil _
theorem SeAt.grow {base : Nat} {w W : World} {x : Se} (h : SeAt base w x) (hbw : base ≤ w.heap.size) {c : Nat} (hc : x.s.cl.length = c) {p : Prt} {cn : List Sm} {en : Ending} (hg : Grown w base x p c en W) (hp : PrtOk base w p)
    (hpf : ∀ k ∈ blk? p.ba ++ blk? p.ea, k ∉ x.fs) (his : PrtIs p cn p.cl) (hok : ChkOk cn) (hne : cn ≠ []) :
    en = .returned (.tuple #[]) ∧ ∃ v' ps', SeAt base W ⟨x.id, x.sp, v', ps', x.s.with_ cn p.cl⟩ ∧ Chg x.fs w W ∧ (∀ k ∈ (⟨x.id, x.sp, v', ps', x.s.with_ cn p.cl⟩ : Se).fs, k ∈ x.fs ∨ w.heap.size ≤ k) ∧ ∀ k ∈ (⟨x.id, x.sp, v', ps', x.s.with_ cn p.cl⟩ : Se).ds, k ∈ x.ds ∨ k ∈ blk? p.ba ++ blk? p.ea := by
  obtain ⟨rfl, v', hch, hv, hrest⟩ := hg
  refine ⟨rfl, v', if p.cl then x.ps.set c p ++ [Prt.zero] else x.ps.set c p, ?_, hch, ?_, ?_⟩
  · have hfl := h.flt
    have hmem : ∀ q ∈ (if p.cl then x.ps.set c p ++ [Prt.zero] else x.ps.set c p), q ∈ x.ps ∨ q = p ∨ q = Prt.zero := by
      intro q hq
      split at hq
      · rcases List.mem_append.1 hq with hq | hq
        · rcases List.mem_or_eq_of_mem_set hq with h' | h'
          · exact .inl h'
          · exact .inr (.inl h')
        · simp at hq; exact .inr (.inr hq)
      · rcases List.mem_or_eq_of_mem_set hq with h' | h'
        · exact .inl h'
        · exact .inr (.inl h')
    have hds : ∀ k ∈ (⟨x.id, x.sp, v', if p.cl then x.ps.set c p ++ [Prt.zero] else x.ps.set c p, x.s.with_ cn p.cl⟩ : Se).ds, k ∈ x.ds ∨ k ∈ blk? p.ba ++ blk? p.ea := by
      intro k hk
      obtain ⟨q, hq, hk2⟩ := List.mem_flatMap.1 hk
      rcases hmem q hq with h' | h' | h'
      · exact .inl (List.mem_flatMap.2 ⟨q, h', hk2⟩)
      · rw [h'] at hk2; exact .inr hk2
      · rw [h'] at hk2; simp [Prt.zero, blk?] at hk2
    have hwa := @with_ahead x.s cn
    have hblk : Blk W x.sp [v', .int .i64 (x.s.with_ cn p.cl).ahead, .bool (x.s.with_ cn p.cl).some] 184 ∧ OwnP base W v' (if p.cl then x.ps.set c p ++ [Prt.zero] else x.ps.set c p) := by
      cases hb : p.cl with
      | true =>
        rw [hb] at hrest
        simp only [if_true] at hrest ⊢
        rw [hwa.1, hwa.2.1]
        rw [his.e] at hrest
        exact hrest
      | false =>
        rw [hb] at hrest
        simp only [Bool.false_eq_true, if_false] at hrest ⊢
        rw [hwa.2.2.1, hwa.2.2.2]
        exact hrest
    refine ⟨hblk.1, hblk.2, h.lo, ?_, ?_, SeIs.grow h.is_ hc his, with_ok h.ok hok hne, ?_⟩
    · intro he
      rcases hv with hv | ⟨g, hv, hg⟩
      · exact h.ne (by rw [← hv]; exact he)
      · change v'.ownBlock = some x.sp at he
        rw [hv] at he
        have := Option.some.inj he
        have := h.blk.lt
        omega
    · intro q hq
      rcases hmem q hq with h' | rfl | rfl
      · exact PrtOk.chg (h.pts q h') hch (fun k hk hm => h.apart k (List.mem_flatMap.2 ⟨q, h', hk⟩) hm)
      · exact PrtOk.chg hp hch hpf
      · exact zero_ptok base W
    · intro k hk hm
      have hklt : k < w.heap.size := by
        rcases hds k hk with h' | h'
        · exact (h.dlt k h').2
        · exact (hp.lo k h').2
      have hkf : k ∉ x.fs := by
        rcases hds k hk with h' | h'
        · exact h.apart k h'
        · exact hpf k h'
      rcases List.mem_cons.1 hm with h3 | h3
      · exact hkf (by rw [h3]; simp [Se.fs])
      · have h3' : v'.ownBlock = some k := by simpa using h3
        rcases hv with hv | ⟨g, hv, hg⟩
        · rw [hv] at h3'
          exact hkf (by simp [Se.fs, h3'])
        · rw [hv] at h3'
          have := Option.some.inj h3'
          omega
  · intro k hk
    rcases List.mem_cons.1 hk with h3 | h3
    · exact .inl (by rw [h3]; simp [Se.fs])
    · have h3' : v'.ownBlock = some k := by simpa using h3
      rcases hv with hv | ⟨g, hv, hg⟩
      · rw [hv] at h3'
        exact .inl (by simp [Se.fs, h3'])
      · rw [hv] at h3'
        have := Option.some.inj h3'
        exact .inr (by omega)
  · intro k hk
    obtain ⟨q, hq, hk2⟩ := List.mem_flatMap.1 hk
    change q ∈ (if p.cl then x.ps.set c p ++ [Prt.zero] else x.ps.set c p) at hq
    have : q ∈ x.ps ∨ q = p ∨ q = Prt.zero := by
      split at hq
      · rcases List.mem_append.1 hq with hq | hq
        · rcases List.mem_or_eq_of_mem_set hq with h' | h'
          · exact .inl h'
          · exact .inr (.inl h')
        · simp at hq; exact .inr (.inr hq)
      · rcases List.mem_or_eq_of_mem_set hq with h' | h'
        · exact .inl h'
        · exact .inr (.inl h')
    rcases this with h' | h' | h'
    · exact .inl (List.mem_flatMap.2 ⟨q, h', hk2⟩)
    · rw [h'] at hk2; exact .inr hk2
    · rw [h'] at hk2; simp [Prt.zero, blk?] at hk2
end
section
open Go.RowKit
attribute [local go_sem] over_drew chg_drew

set_option maxHeartbeats 1000000 in
theorem clip_any (xs : List Nat) (a : Option Addr) (c : Nat) (w : World) (hs : SlI w a c xs) (hl : xs.length ≤ 1000000) :
    Calls Tryz.prog 80 #[.slice a xs.length c] w (Ret w (.slice a xs.length xs.length)) := by
  have hle := hs.le
  have hmx := hs.max
  have hnul := hs.nul
  cases a with
  | none =>
    have hc0 := hnul rfl
    subst hc0
    have h0 : xs.length = 0 := by omega
    rw [h0]
    go_enter Tryz.func80, Tryz.ntmps80
    go_wp2
    go_ret
    exact ⟨ovA, rfl⟩
  | some ad =>
    go_enter Tryz.func80, Tryz.ntmps80
    go_wp2
    go_ret
    exact ⟨ovA, rfl⟩
theorem SlI.clip {w : World} {a : Option Addr} {c : Nat} {xs : List Nat} (h : SlI w a c xs) : SlI w a xs.length xs := by
  refine ⟨Nat.le_refl _, Nat.le_trans h.le h.max, fun ha => ?_, h.rec_⟩
  have := h.nul ha
  have := h.le
  omega
end
end Go.Proofs.YtnihngljmmbenaaGreatDoor
