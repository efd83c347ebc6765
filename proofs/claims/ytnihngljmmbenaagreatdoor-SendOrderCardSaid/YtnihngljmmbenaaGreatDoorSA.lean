import Derived.Test.YtnihngljmmbenaaGreatDoorPA
import Derived.Test.YtnihngljmmbenaaGreatDoorLB
import Derived.Test.YtnihngljmmbenaaGreatDoorNI
import Derived.Test.YtnihngljmmbenaaGreatDoorHE
namespace Go.Proofs.YtnihngljmmbenaaGreatDoor
set_option linter.unusedVariables false
set_option linter.unusedSimpArgs false
section
open Go.RowKit

section
variable {P : Program} {κ : Type} [DecidableEq κ]
theorem erase_map {α β : Type} (f : α → β) : ∀ (l : List α) (i : Nat), (l.eraseIdx i).map f = (l.map f).eraseIdx i
  | [], _ => by simp
  | _ :: _, 0 => by simp
  | a :: l, i + 1 => by simp [erase_map f l i]
def kDel (m : List (κ × Value)) (k : κ) : List (κ × Value) := match m.findIdx? (fun x => x.1 == k) with
  | some j => m.eraseIdx j
  | none => m
theorem kdel_nil (k : κ) : kDel ([] : List (κ × Value)) k = [] := rfl
theorem kdel_cons (x : κ × Value) (m : List (κ × Value)) (k : κ) : kDel (x :: m) k = if x.1 = k then m else x :: kDel m k := by
  unfold kDel
  rw [List.findIdx?_cons]
  by_cases h : x.1 = k
  · simp [h]
  · have : (x.1 == k) = false := by simp [h]
    rw [this, if_neg h]
    cases m.findIdx? (fun x => x.1 == k) <;> simp
theorem kdel_sub : ∀ (m : List (κ × Value)) (k : κ), (kDel m k).Sublist m
  | [], k => by rw [kdel_nil]; exact List.Sublist.refl _
  | x :: m, k => by
    rw [kdel_cons]
    split
    · exact List.sublist_cons_self _ _
    · exact (kdel_sub m k).cons_cons x
theorem kdel_nodup {m : List (κ × Value)} (h : (m.map (·.1)).Nodup) (k : κ) : ((kDel m k).map (·.1)).Nodup := h.sublist ((kdel_sub m k).map _)
theorem kget_del : ∀ (m : List (κ × Value)) (_ : (m.map (·.1)).Nodup) (k j : κ), kGet (kDel m k) j = if k = j then none else kGet m j
  | [], _, k, j => by rw [kdel_nil, kget_nil]; simp
  | x :: m, hn, k, j => by
    rw [List.map_cons] at hn
    have hn' := List.nodup_cons.1 hn
    have ih := kget_del m hn'.2 k j
    rw [kdel_cons]
    by_cases hx : x.1 = k
    · rw [if_pos hx, kget_cons]
      subst hx
      by_cases hj : x.1 = j
      · subst hj
        rw [if_pos rfl]
        exact kget_iff.2 (fun y hy he => hn'.1 (List.mem_map.2 ⟨y, hy, he⟩))
      · rw [if_neg hj, if_neg hj]
    · rw [if_neg hx, kget_cons, kget_cons, ih]
      by_cases hj : x.1 = j
      · subst hj
        rw [if_pos rfl, if_neg (fun e => hx e.symm), if_pos rfl]
      · rw [if_neg hj, if_neg hj]
theorem k_delete {t kt e : TypeId} {enc : κ → Value} (K : KeyK P kt enc) (ht : P.underlying t = some (.map kt e)) {w : World} {b : Nat} {m : List (κ × Value)} (h : MapK w b enc m) (key : κ) (ty : TypeId) :
    ∃ w', (Builtin.delete_ #[t, kt] ty #[.map (some b), enc key]).run P w = .ok (.tuple #[]) w' ∧ MapK w' b enc (kDel m key) ∧ Chg [b] w w' := by
  obtain ⟨es, clock, hb, he, hnd, hbo⟩ := h
  have hf := K.find w key _ m he
  have hc := K.chk es.isEmpty key w
  have hl := (Array.getElem?_eq_some_iff.1 hb).1
  unfold kDel
  cases hq : m.findIdx? (fun x => x.1 == key) with
  | none =>
    rw [hq] at hf
    refine ⟨{ w with heap := w.heap.setIfInBounds b (.map es clock) }, ?_, ⟨es, clock, by simp [Array.getElem?_setIfInBounds, hl], he, hnd, hbo⟩, ⟨rfl, rfl, rfl, by simp, fun i hi hn => by simp only [Array.getElem?_setIfInBounds]; rw [if_neg]; intro h; subst h; exact hn (by simp)⟩⟩
    unfold Builtin.delete_
    simp [run_underlying ht, MapKept.run_getObj_map hb, hc, hf, MapKept.run_setObj_map _ hb, Result.andThen]
  | some j =>
    rw [hq] at hf
    obtain ⟨hj, hj2⟩ := List.findIdx?_eq_some_iff_findIdx_eq.1 hq
    simp only [Option.bind_some, List.getElem?_eq_getElem hj, Option.map_some] at hf
    have hes : es.toList.length = m.length := by simpa using congrArg List.length he
    have hje : j < es.size := by have := hes; simp at this; omega
    have hel : (es.eraseIdxIfInBounds j).toList = es.toList.eraseIdx j := by
      unfold Array.eraseIdxIfInBounds
      rw [dif_pos hje, Array.toList_eraseIdx]
    refine ⟨{ w with heap := w.heap.setIfInBounds b (.map (es.eraseIdxIfInBounds j) clock) }, ?_, ⟨es.eraseIdxIfInBounds j, clock, by simp [Array.getElem?_setIfInBounds, hl], ?_, ?_, ?_⟩, ⟨rfl, rfl, rfl, by simp, fun i hi hn => by simp only [Array.getElem?_setIfInBounds]; rw [if_neg]; intro h; subst h; exact hn (by simp)⟩⟩
    · unfold Builtin.delete_
      simp [run_underlying ht, MapKept.run_getObj_map hb, hc, hf, MapKept.run_setObj_map _ hb, Result.andThen]
    · rw [hel, erase_map, he, ← erase_map]
    · rw [hel, erase_map]
      exact hnd.sublist (List.eraseIdx_sublist _ _)
    · intro x hx
      rw [hel] at hx
      exact hbo x ((List.eraseIdx_sublist _ _).subset hx)
theorem wpList_kdelete {w : World} {ops : Array Oper} {rest : List Oper} {o : Oper} {a : Act} {Q : Exit → Act → World → Prop} {enc : κ → Value}
    (hg : o.guard = none) (m x : Operand) (t kt : TypeId) (hop : o.op = Op.call { callee := Callee.builtin Builtin.delete, args := #[m, x], argTypes := #[t, kt] }) (e : TypeId) (K : KeyK P kt enc) (ht : P.underlying t = some (.map kt e)) (b : Nat) (l : List (κ × Value)) (key : κ)
    (hm : a.eval m = .map (some b)) (hx : a.eval x = enc key) (h : MapK w b enc l)
    (hK : ∀ mt, MapK (chg [b] w mt) b enc (kDel l key) → wpList P ops Q rest (a.put o.dst (.tuple #[])) (chg [b] w mt)) : wpList P ops Q (o :: rest) a w := by
  refine wpList_plain hg fun K' hK' => ?_
  obtain ⟨w', hrun, h1, h2⟩ := k_delete K ht h key o.type
  obtain ⟨mt, rfl⟩ := chg_of h2
  unfold Oper.wp
  simp [execOp, hop, resolve, invoke, builtin, hm, hx, hrun, Result.andThen]
  exact hK' _ _ (hK mt h1)
end
end
section
open Go.RowKit

structure Tm where
  s : Nat
  tr : Nat
  at_ : Nat
theorem tw_mem {α : Type} {p : α → Bool} {y : α} : ∀ {l : List α}, y ∈ l.takeWhile p → p y = true
  | [], h => by simp at h
  | a :: l, h => by
    rw [List.takeWhile_cons] at h
    split at h
    · rename_i ha
      rcases List.mem_cons.1 h with rfl | h
      · exact ha
      · exact tw_mem h
    · simp at h
theorem dw_head {α : Type} {p : α → Bool} {z : α} {r : List α} : ∀ {l : List α}, l.dropWhile p = z :: r → p z = false
  | [], h => by simp at h
  | a :: l, h => by
    rw [List.dropWhile_cons] at h
    split at h
    · exact dw_head h
    · rename_i ha
      injection h with h1 h2
      subst h1
      simpa using ha
def tget (L : List Tm) (s : Nat) : Option Tm := L.find? fun x => decide (x.s = s)
def TSort (L : List Tm) : Prop := (L.map (·.s)).Pairwise (· < ·)
def tdel (L : List Tm) (s : Nat) : List Tm := L.filter fun x => decide (x.s ≠ s)
def tput (L : List Tm) (x : Tm) : List Tm := (tdel L x.s).takeWhile (fun y => decide (y.s < x.s)) ++ x :: (tdel L x.s).dropWhile (fun y => decide (y.s < x.s))
def tupd (now tk : Nat) (x : Tm) : Tm := if x.at_ ≤ now then ⟨x.s, x.tr + 1, now + tk * 2 ^ min (x.tr + 1) 4⟩ else x
def tduo (L : List Tm) (now : Nat) : List Nat := (L.filter fun x => decide (x.at_ ≤ now)).map (·.s)
theorem tupd_s (now tk : Nat) (x : Tm) : (tupd now tk x).s = x.s := by unfold tupd; split <;> rfl
theorem tget_s {L : List Tm} {s : Nat} {x : Tm} (h : tget L s = Option.some x) : x.s = s ∧ x ∈ L := by
  unfold tget at h
  exact ⟨by have := List.find?_some h; simpa using this, List.mem_of_find?_eq_some h⟩
theorem tget_no {L : List Tm} {s : Nat} : tget L s = none ↔ ∀ x ∈ L, x.s ≠ s := by
  unfold tget
  rw [List.find?_eq_none]
  simp
theorem tget_del (L : List Tm) (s j : Nat) : tget (tdel L s) j = if s = j then none else tget L j := by
  unfold tget tdel
  rw [List.find?_filter]
  by_cases h : s = j
  · subst h
    rw [if_pos rfl, List.find?_eq_none]
    intro x _; simp
  · rw [if_neg h]
    congr 1
    funext x
    by_cases hx : x.s = j
    · simp [hx]; omega
    · simp [hx]
theorem tget_put (L : List Tm) (x : Tm) (j : Nat) : tget (tput L x) j = if x.s = j then Option.some x else tget L j := by
  have h1 := tget_del L x.s j
  have h2 : (tdel L x.s).takeWhile (fun y => decide (y.s < x.s)) ++ (tdel L x.s).dropWhile (fun y => decide (y.s < x.s)) = tdel L x.s := List.takeWhile_append_dropWhile
  unfold tput
  unfold tget at h1 ⊢
  rw [List.find?_append, List.find?_cons]
  by_cases h : x.s = j
  · subst h
    have h3 : List.find? (fun y : Tm => decide (y.s = x.s)) ((tdel L x.s).takeWhile (fun y => decide (y.s < x.s))) = none := by
      rw [List.find?_eq_none]
      intro y hy
      have := tw_mem hy
      simp at this ⊢
      omega
    rw [h3]
    simp
  · rw [if_neg h] at h1 ⊢
    rw [← h1, ← h2, List.find?_append, h2]
    simp [h]
theorem sort_del {L : List Tm} (h : TSort L) (s : Nat) : TSort (tdel L s) := by
  unfold TSort tdel at *
  exact h.sublist (List.filter_sublist.map _)
theorem sort_put {L : List Tm} (h : TSort L) (x : Tm) : TSort (tput L x) := by
  have h1 := sort_del h x.s
  have h2 : (tdel L x.s).takeWhile (fun y => decide (y.s < x.s)) ++ (tdel L x.s).dropWhile (fun y => decide (y.s < x.s)) = tdel L x.s := List.takeWhile_append_dropWhile
  have hne : ∀ y ∈ tdel L x.s, y.s ≠ x.s := fun y hy => by unfold tdel at hy; simpa using (List.mem_filter.1 hy).2
  unfold tput
  unfold TSort at h1 ⊢
  rw [← h2, List.map_append, List.pairwise_append] at h1
  obtain ⟨p1, p2, p3⟩ := h1
  rw [List.map_append, List.map_cons, List.pairwise_append]
  have hlt : ∀ y ∈ (tdel L x.s).takeWhile (fun y => decide (y.s < x.s)), y.s < x.s := fun y hy => by simpa using tw_mem hy
  have hgt : ∀ y ∈ (tdel L x.s).dropWhile (fun y => decide (y.s < x.s)), x.s < y.s := fun y hy => by
    cases hd : (tdel L x.s).dropWhile (fun y => decide (y.s < x.s)) with
    | nil => rw [hd] at hy; simp at hy
    | cons z l =>
      have hz : ¬ z.s < x.s := by
        simpa using dw_head hd
      have hzm : z ∈ tdel L x.s := (List.dropWhile_sublist _).subset (by rw [hd]; simp)
      have hz2 := hne z hzm
      rw [hd] at hy p2
      simp only [List.map_cons, List.pairwise_cons] at p2
      rcases List.mem_cons.1 hy with rfl | hy
      · omega
      · have := p2.1 y.s (List.mem_map.2 ⟨y, hy, rfl⟩)
        omega
  refine ⟨p1, List.pairwise_cons.2 ⟨fun a ha => ?_, p2⟩, fun a ha b hb => ?_⟩
  · obtain ⟨y, hy, rfl⟩ := List.mem_map.1 ha
    exact hgt y hy
  · obtain ⟨y, hy, rfl⟩ := List.mem_map.1 ha
    rcases List.mem_cons.1 hb with rfl | hb
    · exact hlt y hy
    · exact p3 _ ha _ hb
theorem tget_map (now tk : Nat) (L : List Tm) (j : Nat) : tget (L.map (tupd now tk)) j = (tget L j).map (tupd now tk) := by
  unfold tget
  rw [List.find?_map]
  congr 1
  congr 1
  funext x
  simp [tupd_s]
theorem sort_map {L : List Tm} (h : TSort L) (now tk : Nat) : TSort (L.map (tupd now tk)) := by
  unfold TSort at *
  rw [List.map_map]
  have : ((fun x : Tm => x.s) ∘ tupd now tk) = fun x => x.s := by funext x; exact tupd_s now tk x
  rw [this]; exact h
theorem sort_duo {L : List Tm} (h : TSort L) (now : Nat) : (tduo L now).Pairwise (· < ·) := by
  unfold TSort at h
  unfold tduo
  exact h.sublist (List.filter_sublist.map _)
theorem duo_mem {L : List Tm} (h : TSort L) (now j : Nat) : j ∈ tduo L now ↔ ∃ x, tget L j = Option.some x ∧ x.at_ ≤ now := by
  unfold tduo
  constructor
  · intro hj
    obtain ⟨x, hx, rfl⟩ := List.mem_map.1 hj
    obtain ⟨h1, h2⟩ := List.mem_filter.1 hx
    refine ⟨x, ?_, by simpa using h2⟩
    cases hg : tget L x.s with
    | none => exact absurd rfl (tget_no.1 hg x h1)
    | some y =>
      obtain ⟨h3, h4⟩ := tget_s hg
      obtain ⟨i, hi, rfl⟩ := List.getElem_of_mem h1
      obtain ⟨k, hk, rfl⟩ := List.getElem_of_mem h4
      unfold TSort at h
      rw [List.pairwise_map, List.pairwise_iff_getElem] at h
      rcases Nat.lt_trichotomy i k with e | e | e
      · have := h i k hi hk e; omega
      · subst e; rfl
      · have := h k i hk hi e; omega
  · rintro ⟨x, hx, hn⟩
    obtain ⟨h3, h4⟩ := tget_s hx
    exact List.mem_map.2 ⟨x, List.mem_filter.2 ⟨h4, by simpa using hn⟩, h3⟩
def encT (x : Tm) : Value := .agg #[.int .i64 (x.tr : Nat), .int .u64 (x.at_ : Nat)]
structure Tms (m : List (Nat × Value)) (L : List Tm) : Prop where
  nd : (m.map (·.1)).Nodup
  get : ∀ j, kGet m j = (tget L j).map encT
  sort : TSort L
theorem Tms.nil : Tms [] [] := ⟨by simp, fun _ => rfl, by simp [TSort]⟩
theorem Tms.put {m : List (Nat × Value)} {L : List Tm} (h : Tms m L) (x : Tm) : Tms (kPut m x.s (encT x)) (tput L x) :=
  ⟨kput_nodup h.nd _ _, fun j => by rw [kget_put, tget_put]; split; rfl; exact h.get j, sort_put h.sort x⟩
theorem Tms.del {m : List (Nat × Value)} {L : List Tm} (h : Tms m L) (s : Nat) : Tms (kDel m s) (tdel L s) :=
  ⟨kdel_nodup h.nd _, fun j => by rw [kget_del _ h.nd, tget_del]; split; rfl; exact h.get j, sort_del h.sort s⟩
structure TmsD (m : List (Nat × Value)) (L : List Tm) (now tk k : Nat) : Prop where
  nd : (m.map (·.1)).Nodup
  get : ∀ j, kGet m j = (tget L j).map fun x => encT (if j ∈ (tduo L now).take k then tupd now tk x else x)
theorem TmsD.zero {m : List (Nat × Value)} {L : List Tm} (h : Tms m L) (now tk : Nat) : TmsD m L now tk 0 := ⟨h.nd, fun j => by rw [h.get j]; simp⟩
theorem TmsD.end_ {m : List (Nat × Value)} {L : List Tm} {now tk : Nat} (hs : TSort L) (h : TmsD m L now tk (tduo L now).length) : Tms m (L.map (tupd now tk)) := by
  refine ⟨h.nd, fun j => ?_, sort_map hs now tk⟩
  rw [h.get j, tget_map, List.take_length]
  cases hg : tget L j with
  | none => rfl
  | some x =>
    simp only [Option.map_some]
    congr 2
    split
    · rfl
    · rename_i hn
      unfold tupd
      rw [if_neg (fun hx => hn ((duo_mem hs now j).2 ⟨x, hg, hx⟩))]
theorem TmsD.step {m : List (Nat × Value)} {L : List Tm} {now tk k : Nat} (hs : TSort L) (h : TmsD m L now tk k) (hk : k < (tduo L now).length) : ∃ x, tget L (tduo L now)[k] = Option.some x ∧ x.at_ ≤ now ∧ x.s = (tduo L now)[k] ∧ kGet m (tduo L now)[k] = Option.some (encT x) ∧ TmsD (kPut m (tduo L now)[k] (encT (tupd now tk x))) L now tk (k + 1) := by
  obtain ⟨x, hx, hn⟩ := (duo_mem hs now _).1 (List.getElem_mem hk)
  have hni : (tduo L now)[k] ∉ (tduo L now).take k := by
    intro hm
    obtain ⟨i, hi, he⟩ := List.getElem_of_mem hm
    simp only [List.length_take] at hi
    rw [List.getElem_take] at he
    have := (List.pairwise_iff_getElem.1 (sort_duo hs now)) i k (by omega) hk (by omega)
    omega
  refine ⟨x, hx, hn, (tget_s hx).1, ?_, kput_nodup h.nd _ _, fun j => ?_⟩
  · rw [h.get, hx, Option.map_some, if_neg hni]
  · rw [kget_put, List.take_succ_eq_append_getElem hk]
    by_cases hj : (tduo L now)[k] = j
    · subst hj
      rw [if_pos rfl, hx, Option.map_some, if_pos (List.mem_append.2 (.inr (List.mem_singleton.2 rfl)))]
    · rw [if_neg hj, h.get j]
      congr 1
      funext y
      have : (j ∈ (tduo L now).take k ++ [(tduo L now)[k]]) ↔ j ∈ (tduo L now).take k := by
        rw [List.mem_append, List.mem_singleton]
        exact ⟨fun h => h.elim id (fun e => absurd e.symm hj), .inl⟩
      simp only [this]
theorem kget_nth : ∀ {m : List (Nat × Value)}, (m.map (·.1)).Nodup → ∀ {i : Nat} (h : i < m.length), kGet m m[i].1 = Option.some m[i].2
  | [], _, i, h => absurd h (by simp)
  | x :: m, hn, 0, _ => by rw [kget_cons]; simp
  | x :: m, hn, i + 1, h => by
    rw [List.map_cons] at hn
    have hn' := List.nodup_cons.1 hn
    have hi : i < m.length := by simpa using h
    rw [kget_cons]
    simp only [List.getElem_cons_succ]
    rw [if_neg (fun e => hn'.1 (by rw [e]; exact List.mem_map.2 ⟨_, List.getElem_mem hi, rfl⟩))]
    exact kget_nth hn'.2 hi
theorem Tms.nth {m : List (Nat × Value)} {L : List Tm} (h : Tms m L) {i : Nat} (hi : i < m.length) : ∃ x, tget L m[i].1 = Option.some x ∧ m[i].2 = encT x := by
  have h1 := kget_nth h.nd hi
  rw [h.get] at h1
  cases hg : tget L m[i].1 with
  | none => rw [hg] at h1; simp at h1
  | some x =>
    rw [hg] at h1
    exact ⟨x, rfl, by simpa using h1.symm⟩
def dueB (L : List Tm) (now k : Nat) : Bool := match tget L k with
  | Option.some x => decide (x.at_ ≤ now)
  | none => false
def dueF (m : List (Nat × Value)) (L : List Tm) (now : Nat) (seen : List Nat) : List Nat := (seen.map fun i => (m[i]!).1).filter (dueB L now)
theorem dueF_snoc (m : List (Nat × Value)) (L : List Tm) (now : Nat) (seen : List Nat) {i : Nat} (hi : i < m.length) : dueF m L now (seen ++ [i]) = dueF m L now seen ++ (if dueB L now m[i].1 = true then [m[i].1] else []) := by
  unfold dueF
  rw [List.map_append, List.filter_append]
  congr 1
  have : (m[i]!).1 = m[i].1 := by rw [getElem!_pos m i hi]
  simp only [List.map_cons, List.map_nil, this]
  by_cases h : dueB L now m[i].1 = true <;> simp [h]
theorem due_sort {m : List (Nat × Value)} {L : List Tm} (h : Tms m L) (now : Nat) {seen : List Nat} (hnd : seen.Nodup) (hlt : ∀ i ∈ seen, i < m.length) (hall : ∀ i, i < m.length → i ∈ seen) : srtN (dueF m L now seen) = tduo L now := by
  have hp := seen_perm hnd hlt hall
  have hp2 : (dueF m L now seen).Perm ((m.map (·.1)).filter (dueB L now)) := hp.filter _
  have hn2 : (dueF m L now seen).Nodup := (hp2.nodup_iff).2 (h.nd.sublist List.filter_sublist)
  refine sort_uniq ?_ (sort_duo h.sort now) (fun s => ?_)
  · have h1 := srtN_sorted (dueF m L now seen)
    have h2 : (srtN (dueF m L now seen)).Nodup := by rw [(srtN_perm _).nodup_iff]; exact hn2
    rw [List.nodup_iff_pairwise_ne] at h2
    exact List.Pairwise.imp₂ (fun _ _ h1 h2 => by omega) h1 h2
  · rw [(srtN_perm _).mem_iff, hp2.mem_iff, List.mem_filter, duo_mem h.sort]
    unfold dueB
    constructor
    · rintro ⟨_, h2⟩
      cases hg : tget L s with
      | none => rw [hg] at h2; simp at h2
      | some x => rw [hg] at h2; exact ⟨x, rfl, by simpa using h2⟩
    · rintro ⟨x, hx, hle⟩
      rw [hx]
      refine ⟨?_, by simpa using hle⟩
      by_cases hm : s ∈ m.map (·.1)
      · exact hm
      · have : kGet m s = none := kget_iff.2 (fun y hy he => hm (List.mem_map.2 ⟨y, hy, he⟩))
        rw [h.get, hx] at this
        simp at this
end
section
open Go.RowKit

def u32ok (n : Int) : Prop := 0 ≤ n ∧ n < 4294967296

structure Pw where
  c : Int
  b : Int
  n : Int
  deriving Inhabited, DecidableEq
namespace Pw
def cs (p : Pw) : List Value := [.int .u32 p.c, .int .u32 p.b, .int .u32 p.n]
abbrev v (p : Pw) : Value := .agg #[.int .u32 p.c, .int .u32 p.b, .int .u32 p.n]
def wf (p : Pw) : Prop := u32ok p.c ∧ u32ok p.b ∧ u32ok p.n
end Pw

structure Pc where
  s : Int
  f : Pw
  t : Pw
  n : Int
  deriving Inhabited, DecidableEq
namespace Pc
def cs (p : Pc) : List Value := [.int .u32 p.s, .int .u32 p.f.c, .int .u32 p.f.b, .int .u32 p.f.n, .int .u32 p.t.c, .int .u32 p.t.b, .int .u32 p.t.n, .int .i64 p.n]
abbrev v (p : Pc) : Value := .agg #[.int .u32 p.s, .int .u32 p.f.c, .int .u32 p.f.b, .int .u32 p.f.n, .int .u32 p.t.c, .int .u32 p.t.b, .int .u32 p.t.n, .int .i64 p.n]
def wf (p : Pc) : Prop := u32ok p.s ∧ p.f.wf ∧ p.t.wf ∧ -9223372036854775808 ≤ p.n ∧ p.n ≤ 9223372036854775807
theorem cs_len (p : Pc) : p.cs.length = 8 := rfl
theorem cs_one (p : Pc) : ∀ u ∈ p.cs, u.oneCell' = true := by intro u hu; simp [cs] at hu; rcases hu with rfl | rfl | rfl | rfl | rfl | rfl | rfl | rfl <;> rfl
end Pc

abbrev SlP (w : World) (a : Option Addr) (cap : Nat) (xs : List Pc) : Prop := Sl 8 Pc.cs w a cap xs
theorem SlP.at_ {w : World} {a : Option Addr} {cap : Nat} {xs : List Pc} (h : SlP w a cap xs) {k : Nat} (hk : k < xs.length) :
    ∃ b off, a = some ⟨b, off, none⟩ ∧ b < w.heap.size ∧ w.cell? ⟨b, off + k * 8, none⟩ = some (.int .u32 xs[k].s) ∧ w.cell? ⟨b, off + k * 8 + 1, none⟩ = some (.int .u32 xs[k].f.c) ∧ w.cell? ⟨b, off + k * 8 + 2, none⟩ = some (.int .u32 xs[k].f.b) ∧
      w.cell? ⟨b, off + k * 8 + 3, none⟩ = some (.int .u32 xs[k].f.n) ∧ w.cell? ⟨b, off + k * 8 + 4, none⟩ = some (.int .u32 xs[k].t.c) ∧ w.cell? ⟨b, off + k * 8 + 5, none⟩ = some (.int .u32 xs[k].t.b) ∧ w.cell? ⟨b, off + k * 8 + 6, none⟩ = some (.int .u32 xs[k].t.n) ∧
      w.cell? ⟨b, off + k * 8 + 7, none⟩ = some (.int .i64 xs[k].n) := by
  obtain ⟨b, off, rfl, hb, hcell⟩ := h.rec_ k xs[k] (List.getElem?_eq_getElem hk)
  exact ⟨b, off, rfl, hb, hcell 0 _ rfl, hcell 1 _ rfl, hcell 2 _ rfl, hcell 3 _ rfl, hcell 4 _ rfl, hcell 5 _ rfl, hcell 6 _ rfl, hcell 7 _ rfl⟩

def bef (a b : Pw) : Bool := if a.c = b.c then decide (a.n < b.n) else decide (a.c < b.c)
def sumN : List Pc → Int
  | [] => 0
  | p :: l => p.n + sumN l
theorem sumN_append (a b : List Pc) : sumN (a ++ b) = sumN a + sumN b := by
  induction a with
  | nil => simp [sumN]
  | cons x a ih => simp only [List.cons_append, sumN, ih]; omega
def okPs (l : List Pc) : Prop := ∀ p ∈ l, 1 ≤ p.n ∧ p.n ≤ 65536
theorem sumN_nonneg {l : List Pc} (h : okPs l) : (l.length : Int) ≤ sumN l ∧ sumN l ≤ 65536 * l.length := by
  induction l with
  | nil => simp [sumN]
  | cons x l ih =>
    have h1 := h x (by simp)
    have h2 := ih (fun p hp => h p (by simp [hp]))
    simp only [sumN, List.length_cons]
    omega
def addOk (most : Int) (l : List Pc) (p : Pc) : Bool := decide (1 ≤ p.n) && decide (p.n ≤ 65536) && decide (sumN l < most)
def addW (most : Int) (l : List Pc) (p : Pc) : List Pc := if addOk most l p then l ++ [p] else l
def ackQ (s : Int) (to : Pw) (p : Pc) : Bool := decide (p.s = s) && !bef to p.t
def dropQ (s : Int) (p : Pc) : Bool := decide (p.s = s)
def outW (q : Pc → Bool) (l : List Pc) : List Pc := l.filter fun p => !q p
theorem outW_len (q : Pc → Bool) (l : List Pc) : (outW q l).length ≤ l.length := List.length_filter_le _ _
theorem okPs_out {q : Pc → Bool} {l : List Pc} (h : okPs l) : okPs (outW q l) := fun p hp => h p (List.mem_filter.1 hp).1
theorem addW_ok {most : Int} {l : List Pc} {p : Pc} (h : okPs l) : okPs (addW most l p) := by
  unfold addW
  split
  · rename_i hk
    simp only [addOk, Bool.and_eq_true, decide_eq_true_eq] at hk
    intro x hx
    rcases List.mem_append.1 hx with hx | hx
    · exact h x hx
    · simp at hx; subst hx; exact hk.1
  · exact h
def winOk (most : Int) (l : List Pc) : Prop := okPs l ∧ sumN l < most + 65536 ∧ most ≤ 1048576
theorem sumN_out (q : Pc → Bool) {l : List Pc} (h : okPs l) : sumN (outW q l) ≤ sumN l := by
  induction l with
  | nil => simp [outW, sumN]
  | cons x l ih =>
    have h1 := h x (by simp)
    have h2 := ih (fun p hp => h p (by simp [hp]))
    unfold outW at *
    rw [List.filter_cons]
    split
    · simp only [sumN]; omega
    · simp only [sumN]; omega
theorem winOk_add {most : Int} {l : List Pc} (h : winOk most l) (p : Pc) : winOk most (addW most l p) := by
  refine ⟨addW_ok h.1, ?_, h.2.2⟩
  unfold addW
  split
  · rename_i hk
    simp only [addOk, Bool.and_eq_true, decide_eq_true_eq] at hk
    rw [sumN_append]; simp only [sumN]; omega
  · exact h.2.1
theorem winOk_out {most : Int} {l : List Pc} (h : winOk most l) (q : Pc → Bool) : winOk most (outW q l) := ⟨okPs_out h.1, by have := sumN_out q h.1; have := h.2.1; omega, h.2.2⟩
theorem winOk_len {most : Int} {l : List Pc} (h : winOk most l) : l.length ≤ 1200000 := by
  have h1 := (sumN_nonneg h.1).1
  have h2 := h.2.1
  have h3 := h.2.2
  omega
end
section
open Go.RowKit

instance : DecidableEq Pl := fun a b => decidable_of_iff (a.chunk = b.chunk ∧ a.bits = b.bits ∧ a.count = b.count) (by cases a; cases b; simp)
def Pl.w (p : Pl) : Pw := ⟨(p.chunk : Nat), (p.bits : Nat), (p.count : Nat)⟩
def hasS (s : Sr) (p : Pl) : Option (List Sm × Bool) := match s.at_ p.chunk with
  | Option.some (c, b) => if p.count ≤ c.length ∧ (b = true → p.count < c.length) ∧ blen c p.count = p.bits then Option.some (c, b) else none
  | none => none
theorem hasS_iff {s : Sr} {p : Pl} {c : List Sm} {b : Bool} : hasS s p = Option.some (c, b) ↔ s.has p c b := by
  unfold hasS Sr.has
  cases h : s.at_ p.chunk with
  | none => simp
  | some y =>
    obtain ⟨c', b'⟩ := y
    simp only
    split
    · rename_i hx
      constructor
      · intro he
        simp only [Option.some.injEq, Prod.mk.injEq] at he
        obtain ⟨rfl, rfl⟩ := he
        exact ⟨rfl, hx⟩
      · rintro ⟨he, _⟩
        exact he
    · rename_i hx
      constructor
      · intro he; simp at he
      · rintro ⟨he, h2⟩
        simp only [Option.some.injEq, Prod.mk.injEq] at he
        obtain ⟨rfl, rfl⟩ := he
        exact absurd h2 hx
theorem hasS_no {s : Sr} {p : Pl} : hasS s p = none ↔ ∀ c b, ¬ s.has p c b := by
  constructor
  · intro h c b hh
    rw [hasS_iff.2 hh] at h
    simp at h
  · intro h
    cases hq : hasS s p with
    | none => rfl
    | some y => exact absurd (hasS_iff.1 hq) (h y.1 y.2)
def cutS (s : Sr) (id : Nat) (p : Pl) (most : Int) : Option (Fr × Pl) :=
  if p = s.fin then none else (hasS s p).map fun y => (cutF id y.1 y.2 p most, cutPl y.1 y.2 p most)
structure Ft where
  kd : Nat
  f : Fr
structure Sd where
  e : Nat
  now : Nat
  most : Int
  tk : Nat
  come : Nat → Pl
  sent : Nat → Pl
  ws : List Pc
  ts : List Tm
def fset (f : Nat → Pl) (k : Nat) (p : Pl) : Nat → Pl := fun j => if k = j then p else f j
theorem fset_get (f : Nat → Pl) (k : Nat) (p : Pl) : fset f k p k = p := if_pos rfl
def tstart (L : List Tm) (s now tk : Nat) : List Tm := match tget L s with
  | none => tput L ⟨s, 0, now + tk⟩
  | _ => L
def Sd.room (st : Sd) : Bool := decide (sumN st.ws < st.most)
def Sd.way (st : Sd) (u : Nat) (fr to : Pl) (n : Nat) : Sd := { st with ws := addW st.most st.ws ⟨(u : Nat), fr.w, to.w, (n : Nat)⟩, sent := fset st.sent u to }
def pumpU (s : Sr) (u : Nat) : Nat → Sd → List Ft × Sd
  | 0, st => ([], st)
  | n + 1, st => if st.room = true then
      match cutS s u (st.sent u) 1024 with
      | none => ([], st)
      | Option.some (f, to) =>
        let st1 := st.way u (st.sent u) to f.bits.length
        let r := pumpU s u n { st1 with ts := tstart st1.ts u st1.now st1.tk }
        (⟨2, f⟩ :: r.1, r.2)
    else ([], st)
def Sd.next (st : Sd) (u : Nat) (to : Pl) (n : Nat) : Sd := { st.way u (st.sent u) to n with ts := tstart st.ts u st.now st.tk }
theorem pumpU_stop {s : Sr} {u : Nat} {st : Sd} (h : st.room = false ∨ cutS s u (st.sent u) 1024 = none) (n : Nat) : pumpU s u n st = ([], st) := by
  cases n with
  | zero => rfl
  | succ n =>
    unfold pumpU
    rcases h with h | h
    · rw [h]; simp
    · split
      · rw [h]
      · rfl
theorem pumpU_go {s : Sr} {u : Nat} {st : Sd} (h : st.room = true) {f : Fr} {to : Pl} (hc : cutS s u (st.sent u) 1024 = Option.some (f, to)) (n : Nat) : pumpU s u (n + 1) st = (⟨2, f⟩ :: (pumpU s u n (st.next u to f.bits.length)).1, (pumpU s u n (st.next u to f.bits.length)).2) := by
  conv => lhs; unfold pumpU
  rw [if_pos h, hc]
  rfl
structure PmpI (s : Sr) (u : Nat) (st0 : Sd) (k : Nat) (out : List Ft) (st : Sd) : Prop where
  le : k ≤ s.all.length
  rk : ∀ c b, s.has (st.sent u) c b → k ≤ s.rank (st.sent u)
  eq : pumpU s u 62 st0 = (out ++ (pumpU s u (62 - k) st).1, (pumpU s u (62 - k) st).2)
theorem PmpI.zero (s : Sr) (u : Nat) (st : Sd) : PmpI s u st 0 [] st := ⟨Nat.zero_le _, fun _ _ _ => Nat.zero_le _, rfl⟩
theorem PmpI.stop {s : Sr} {u k : Nat} {st0 st : Sd} {out : List Ft} (h : PmpI s u st0 k out st) (hs : st.room = false ∨ cutS s u (st.sent u) 1024 = none) : pumpU s u 62 st0 = (out, st) := by
  rw [h.eq, pumpU_stop hs]; simp
theorem cutS_some {s : Sr} {id : Nat} {p : Pl} {most : Int} {f : Fr} {to : Pl} (h : cutS s id p most = Option.some (f, to)) : p ≠ s.fin ∧ ∃ c b, s.has p c b ∧ f = cutF id c b p most ∧ to = cutPl c b p most := by
  unfold cutS at h
  split at h
  · simp at h
  · rename_i hp
    cases hh : hasS s p with
    | none => rw [hh] at h; simp at h
    | some y =>
      obtain ⟨c, b⟩ := y
      rw [hh] at h
      simp only [Option.map_some, Option.some.injEq, Prod.mk.injEq] at h
      exact ⟨hp, c, b, hasS_iff.1 hh, h.1.symm, h.2.symm⟩
theorem PmpI.step {s : Sr} {u k : Nat} {st0 st : Sd} {out : List Ft} (h : PmpI s u st0 k out st) (hok : SrOk s) (hr : st.room = true) {f : Fr} {to : Pl} (hc : cutS s u (st.sent u) 1024 = Option.some (f, to)) (hl : s.all.length ≤ 60) : PmpI s u st0 (k + 1) (out ++ [⟨2, f⟩]) (st.next u to f.bits.length) ∧ k < s.all.length := by
  obtain ⟨hp, c, b, hh, rfl, rfl⟩ := cutS_some hc
  have h1 := h.rk c b hh
  have h2 := rank_fin hok hh hp
  have h3 := cut_nx hok hh hp 1024 u
  have h4 : (st.next u (cutPl c b (st.sent u) 1024) (cutF u c b (st.sent u) 1024).bits.length).sent u = cutPl c b (st.sent u) 1024 := fset_get _ _ _
  refine ⟨⟨by omega, fun c' b' _ => by rw [h4]; have := h3.rank; omega, ?_⟩, by omega⟩
  rw [h.eq, show 62 - k = (62 - (k + 1)) + 1 by omega, pumpU_go hr hc]
  simp
def pump (S : List (Nat × Sr)) : List Nat → Sd → List Ft × Sd
  | [], st => ([], st)
  | u :: ks, st =>
    let r := pumpU (getS S u) u 62 st
    let q := pump S ks r.2
    (r.1 ++ q.1, q.2)
def Sd.back (st : Sd) (u : Nat) : Sd := { st with ws := outW (dropQ (u : Nat)) st.ws, sent := fset st.sent u (st.come u) }
def anewS (s : Sr) (u : Nat) (st : Sd) : List Ft × Sd :=
  let st1 := st.back u
  let from_ : Pl := ⟨(st1.come u).chunk, 0, 0⟩
  match cutS s u from_ 1073741824 with
  | none => ([], st1)
  | Option.some (f, to) =>
    let st2 := st1.way u from_ to f.bits.length
    ([⟨3, { f with sum := 0 }⟩], { st2 with ts := tput st2.ts ⟨u, 0, st2.now + st2.tk⟩ })
def takeS (S : List (Nat × Sr)) (ks : List Nat) (st : Sd) (kd e u : Nat) (p : Pl) (sum : Nat) : (List Ft × Bool × Nat) × Sd :=
  if (kd ≠ 4 ∧ kd ≠ 5) ∨ e ≠ st.e then (([], false, 1), st) else
  match hasS (getS S u) p with
  | none => (([], false, 122), st)
  | Option.some (c, _) =>
    if bef p.w (st.come u).w = true then (([], false, 0), st) else
    if sumP c p.count ≠ sum then let r := anewS (getS S u) u st; ((r.1, false, 0), r.2) else
    let moved := bef (st.come u).w p.w
    let st1 : Sd := { st with come := fset st.come u p, ws := outW (ackQ (u : Nat) p.w) st.ws }
    let st2 := if kd = 5 then st1.back u else st1
    let st3 : Sd := if bef (st2.sent u).w p.w = true then { st2 with sent := fset st2.sent u p } else st2
    let st4 : Sd := if moved = false ∧ kd ≠ 5 then st3 else if p = (getS S u).fin then { st3 with ts := tdel st3.ts u } else { st3 with ts := tput st3.ts ⟨u, 0, st3.now + st3.tk⟩ }
    let r := pump S ks st4
    ((r.1, moved, 0), r.2)
def dueS (S : List (Nat × Sr)) (st : Sd) (u : Nat) : Sd :=
  let st1 := st.back u
  if (hasS (getS S u) (st1.come u)).isNone = true ∨ st1.come u = (getS S u).fin then { st1 with ts := tdel st1.ts u } else st1
def tickS (S : List (Nat × Sr)) (ks : List Nat) (st : Sd) (n : Nat) : List Ft × Sd :=
  let st1 : Sd := { st with now := st.now + n, ts := st.ts.map (tupd (st.now + n) st.tk) }
  pump S ks ((tduo st.ts (st.now + n)).foldl (dueS S) st1)
def behS (s : Sr) (p : Pl) : Int := if (hasS s p).isSome = true then s.behind p else s.behind Pl.zero
def backlogS (S : List (Nat × Sr)) (ks : List Nat) (st : Sd) : Int := (ks.map fun u => behS (getS S u) (st.come u)).sum
end
section
open Go.RowKit

theorem blen_step {c : List Sm} (h : ChkOk c) {n : Nat} (hn : n < c.length) : blen c n < blen c (n + 1) := by
  unfold blen
  rw [takeC_get hn, bitsC_snoc, List.length_append]
  have hw : ∀ x ∈ c.take n, x.wf := fun x hx => h.wf x (List.mem_of_mem_take hx)
  have hk := knowZ hw (by rw [List.length_take]; have := h.len; omega)
  have := laid_len (t := c[n].t) hk.1 hk.2.1 (h.wf c[n] (List.getElem_mem hn)).2
  omega
theorem blen_lt {c : List Sm} (h : ChkOk c) {n m : Nat} (hn : n < m) (hm : m ≤ c.length) : blen c n < blen c m := by
  have h1 := blen_step h (show n < c.length by omega)
  have h2 := blen_mono c (show n + 1 ≤ m by omega)
  omega
def IsPl (s : Sr) (p : Pl) : Prop := ∃ c b, s.has p c b
theorem isPl_zero {s : Sr} (h : SrOk s) (k : Nat) (hk : k ≤ s.cl.length) : IsPl s ⟨k, 0, 0⟩ := has_at h hk
theorem hasS_is {s : Sr} {p : Pl} (h : IsPl s p) : ∃ y, hasS s p = Option.some y := by
  obtain ⟨c, b, hh⟩ := h
  exact ⟨(c, b), hasS_iff.2 hh⟩
structure CutOk (s : Sr) (u : Nat) (p : Pl) (most : Int) (f : Fr) (to : Pl) : Prop where
  pl : IsPl s to
  ser : f.series = u
  from_ : f.from_ = p
  ct : 0 < f.count
  rank : s.rank p < s.rank to
  len : 1 ≤ f.bits.length ∧ f.bits.length ≤ 3504
  c24 : f.count ≤ 24
  sl : f.sum < 2305843009213693951
theorem cutS_ok {s : Sr} {u : Nat} {p : Pl} {most : Int} {f : Fr} {to : Pl} (hok : SrOk s) (h : cutS s u p most = Option.some (f, to)) : CutOk s u p most f to := by
  obtain ⟨hp, c, b, hh, rfl, rfl⟩ := cutS_some h
  have hx := cut_nx hok hh hp most u
  have hl := has_lt hh hp
  have hn := cutN_le most hl
  have hcl := cutF_len hh hp most u
  have hbl := blen_lt (hh.ok hok) (show p.count < cutN c p most by omega) hn.2
  obtain ⟨c', b', h1, _⟩ := hx.sum
  refine ⟨⟨c', b', h1⟩, hx.series, hx.from_, by have := hx.most.1; omega, hx.rank, ⟨?_, hx.len⟩, hx.count, hx.sl⟩
  rw [hcl.1]
  have := hh.2.2.2
  omega
theorem cutS_none {s : Sr} {u : Nat} {p : Pl} {most : Int} (hp : IsPl s p) : cutS s u p most = none ↔ p = s.fin := by
  obtain ⟨c, b, hh⟩ := hp
  unfold cutS
  rw [hasS_iff.2 hh]
  split <;> simp_all
theorem cutS_get {s : Sr} {u : Nat} {p : Pl} {most : Int} (hp : IsPl s p) (hne : p ≠ s.fin) : ∃ f to, cutS s u p most = Option.some (f, to) := by
  cases h : cutS s u p most with
  | none => exact absurd ((cutS_none hp).1 h) hne
  | some y => exact ⟨y.1, y.2, rfl⟩
inductive Chain (s : Sr) (u : Nat) : Pl → List Ft → Pl → Prop
  | nil (p : Pl) : Chain s u p [] p
  | cons {p q r : Pl} {f : Fr} {l : List Ft} (h : cutS s u p 1024 = Option.some (f, q)) (k : Chain s u q l r) : Chain s u p (⟨2, f⟩ :: l) r
theorem Chain.split {s : Sr} {u : Nat} {p r : Pl} : ∀ {l m : List Ft}, Chain s u p (l ++ m) r → ∃ q, Chain s u p l q ∧ Chain s u q m r
  | [], m, h => ⟨p, .nil p, h⟩
  | x :: l, m, h => by
    cases h with
    | cons h1 h2 =>
      obtain ⟨q, h3, h4⟩ := Chain.split h2
      exact ⟨q, .cons h1 h3, h4⟩
theorem Chain.all {s : Sr} (hok : SrOk s) {u : Nat} {p r : Pl} {l : List Ft} (h : Chain s u p l r) : ∀ x ∈ l, x.kd = 2 ∧ x.f.series = u ∧ 0 < x.f.count ∧ 1 ≤ x.f.bits.length ∧ x.f.bits.length ≤ 3504 := by
  induction h with
  | nil p => simp
  | cons h1 h2 ih =>
    intro x hx
    rcases List.mem_cons.1 hx with rfl | hx
    · have k := cutS_ok hok h1
      exact ⟨rfl, k.ser, k.ct, k.len⟩
    · exact ih x hx
theorem Chain.isPl {s : Sr} (hok : SrOk s) {u : Nat} {p r : Pl} {l : List Ft} (h : Chain s u p l r) (hp : IsPl s p) : IsPl s r := by
  induction h with
  | nil p => exact hp
  | cons h1 h2 ih => exact ih (cutS_ok hok h1).pl
theorem Chain.len {s : Sr} (hok : SrOk s) {u : Nat} {p r : Pl} {l : List Ft} (h : Chain s u p l r) (hp : IsPl s p) : l.length + s.rank p ≤ s.rank r := by
  induction h with
  | nil p => simp
  | cons h1 h2 ih =>
    have k := cutS_ok hok h1
    have := ih k.pl
    have := k.rank
    simp only [List.length_cons]
    omega
def bitsF (l : List Ft) : Int := (l.map fun x => (x.f.bits.length : Int)).sum
structure Kept (st st' : Sd) : Prop where
  e : st'.e = st.e
  now : st'.now = st.now
  most : st'.most = st.most
  tk : st'.tk = st.tk
  come : st'.come = st.come
theorem Kept.refl (st : Sd) : Kept st st := ⟨rfl, rfl, rfl, rfl, rfl⟩
theorem Kept.trans {a b c : Sd} (h : Kept a b) (k : Kept b c) : Kept a c := ⟨k.e.trans h.e, k.now.trans h.now, k.most.trans h.most, k.tk.trans h.tk, k.come.trans h.come⟩
theorem next_kept (st : Sd) (u : Nat) (to : Pl) (n : Nat) : Kept st (st.next u to n) := ⟨rfl, rfl, rfl, rfl, rfl⟩
theorem next_ws (st : Sd) (u : Nat) (to : Pl) (n : Nat) : (st.next u to n).ws = addW st.most st.ws ⟨(u : Nat), (st.sent u).w, to.w, (n : Nat)⟩ := rfl
theorem next_sent (st : Sd) (u : Nat) (to : Pl) (n : Nat) (j : Nat) : (st.next u to n).sent j = if u = j then to else st.sent j := rfl
theorem next_ts (st : Sd) (u : Nat) (to : Pl) (n : Nat) : (st.next u to n).ts = tstart st.ts u st.now st.tk := rfl
theorem addW_sum {most : Int} {l : List Pc} {p : Pc} (h1 : 1 ≤ p.n) (h2 : p.n ≤ 65536) (h3 : sumN l < most) : addW most l p = l ++ [p] := by
  unfold addW addOk
  rw [if_pos (by simp [h1, h2, h3])]
structure PumpU (s : Sr) (u : Nat) (st : Sd) (out : List Ft) (st' : Sd) : Prop where
  kept : Kept st st'
  chain : Chain s u (st.sent u) out (st'.sent u)
  other : ∀ j, j ≠ u → st'.sent j = st.sent j
  ws : ∃ l, st'.ws = st.ws ++ l ∧ (∀ x ∈ l, x.s = (u : Nat) ∧ (∃ q, IsPl s q ∧ x.t = q.w) ∧ 1 ≤ x.n ∧ x.n ≤ 3504) ∧ sumN l = bitsF out
  sum : sumN st'.ws < st.most + 3504 ∨ out = []
  no : out = [] → st' = st
  ts : out ≠ [] → st'.ts = tstart st.ts u st.now st.tk
theorem tget_start (L : List Tm) (u now tk : Nat) : (tget (tstart L u now tk) u).isSome = true := by
  unfold tstart
  cases h : tget L u with
  | none => simp only [tget_put, if_pos]; rfl
  | some x => simp only [h]; rfl
theorem tstart_there {L : List Tm} {u now tk : Nat} (h : (tget L u).isSome = true) : tstart L u now tk = L := by
  unfold tstart
  cases hq : tget L u with
  | none => rw [hq] at h; cases h
  | some x => rfl
theorem pumpU_is {s : Sr} (hok : SrOk s) (u : Nat) : ∀ (n : Nat) (st : Sd), IsPl s (st.sent u) → PumpU s u st (pumpU s u n st).1 (pumpU s u n st).2
  | 0, st, h => ⟨Kept.refl _, .nil _, fun _ _ => rfl, ⟨[], by simp [pumpU], by simp, by simp [pumpU, bitsF, sumN]⟩, .inr rfl, fun _ => rfl, fun h => absurd rfl h⟩
  | n + 1, st, h => by
    by_cases hr : st.room = true
    · cases hc : cutS s u (st.sent u) 1024 with
      | none =>
        rw [pumpU_stop (.inr hc)]
        exact ⟨Kept.refl _, .nil _, fun _ _ => rfl, ⟨[], by simp, by simp, by simp [bitsF, sumN]⟩, .inr rfl, fun _ => rfl, fun h => absurd rfl h⟩
      | some y =>
        obtain ⟨f, to⟩ := y
        rw [pumpU_go hr hc]
        have k := cutS_ok hok hc
        have hs : (st.next u to f.bits.length).sent u = to := by rw [next_sent, if_pos rfl]
        have ih := pumpU_is hok u n (st.next u to f.bits.length) (by rw [hs]; exact k.pl)
        have hroom : sumN st.ws < st.most := of_decide_eq_true hr
        have hws : (st.next u to f.bits.length).ws = st.ws ++ [⟨(u : Nat), (st.sent u).w, to.w, (f.bits.length : Nat)⟩] := by
          rw [next_ws]
          exact addW_sum (by have := k.len.1; simp only; omega) (by have := k.len.2; simp only; omega) hroom
        obtain ⟨l, hl1, hl2, hl3⟩ := ih.ws
        refine ⟨(next_kept _ _ _ _).trans ih.kept, .cons hc (by have := ih.chain; rw [hs] at this; exact this), fun j hj => ?_, ⟨⟨(u : Nat), (st.sent u).w, to.w, (f.bits.length : Nat)⟩ :: l, ?_, ?_, ?_⟩, .inl ?_, fun h => by simp at h, fun _ => ?_⟩
        · rw [ih.other j hj, next_sent, if_neg (Ne.symm hj)]
        · simp only
          rw [hl1, hws]; simp
        · intro x hx
          rcases List.mem_cons.1 hx with rfl | hx
          · exact ⟨rfl, ⟨to, k.pl, rfl⟩, by have := k.len.1; simp only; omega, by have := k.len.2; simp only; omega⟩
          · exact hl2 x hx
        · simp only [sumN, hl3, bitsF, List.map_cons, List.sum_cons]
        · rcases ih.sum with h1 | h1
          · exact h1
          · have h2 := ih.no h1
            simp only
            rw [h2, hws, sumN_append]
            have := k.len.2
            simp only [sumN]
            omega
        · by_cases h0 : (pumpU s u n (st.next u to f.bits.length)).1 = []
          · have h2 := ih.no h0
            simp only
            rw [h2]; rfl
          · have h2 := ih.ts h0
            simp only
            rw [h2, next_ts]
            exact tstart_there (tget_start _ _ _ _)
    · rw [pumpU_stop (.inl (by simpa using hr))]
      exact ⟨Kept.refl _, .nil _, fun _ _ => rfl, ⟨[], by simp, by simp, by simp [bitsF, sumN]⟩, .inr rfl, fun _ => rfl, fun h => absurd rfl h⟩
structure PumpA (S : List (Nat × Sr)) (ks : List Nat) (st : Sd) (out : List Ft) (st' : Sd) : Prop where
  kept : Kept st st'
  chain : ∀ u ∈ ks, Chain (getS S u) u (st.sent u) (out.filter fun x => decide (x.f.series = u)) (st'.sent u)
  ser : ∀ x ∈ out, x.f.series ∈ ks ∧ x.kd = 2
  other : ∀ j, j ∉ ks → st'.sent j = st.sent j
  ws : ∃ l, st'.ws = st.ws ++ l ∧ (∀ x ∈ l, ∃ u ∈ ks, x.s = (u : Nat) ∧ (∃ q, IsPl (getS S u) q ∧ x.t = q.w) ∧ 1 ≤ x.n ∧ x.n ≤ 3504) ∧ sumN l = bitsF out
  sum : sumN st'.ws < st.most + 3504 ∨ out = []
  no : out = [] → st' = st
  pl : ∀ j, IsPl (getS S j) (st.sent j) → IsPl (getS S j) (st'.sent j)
  ts : ∀ j, tget st'.ts j = tget st.ts j ∨ (tget st.ts j = none ∧ tget st'.ts j = Option.some ⟨j, 0, st.now + st.tk⟩)
  run : ∀ j, tget st'.ts j = none → st'.sent j = st.sent j ∧ (∀ x ∈ st'.ws, x ∈ st.ws ∨ x.s ≠ (j : Nat))
theorem filt_none {out : List Ft} {u : Nat} (h : ∀ x ∈ out, x.f.series ≠ u) : out.filter (fun x => decide (x.f.series = u)) = [] := List.filter_eq_nil_iff.2 (fun x hx => by simpa using h x hx)
theorem filt_all {out : List Ft} {u : Nat} (h : ∀ x ∈ out, x.f.series = u) : out.filter (fun x => decide (x.f.series = u)) = out := List.filter_eq_self.2 (fun x hx => by simpa using h x hx)
theorem tget_tstart (L : List Tm) (u now tk j : Nat) : tget (tstart L u now tk) j = tget L j ∨ (tget L j = none ∧ tget (tstart L u now tk) j = Option.some ⟨j, 0, now + tk⟩) := by
  unfold tstart
  cases hq : tget L u with
  | none =>
    simp only [tget_put]
    by_cases hj : u = j
    · subst hj; rw [if_pos rfl]; exact .inr ⟨hq, rfl⟩
    · rw [if_neg hj]; exact .inl rfl
  | some x => exact .inl rfl
theorem pump_is {S : List (Nat × Sr)} (hok : ∀ u, SrOk (getS S u)) : ∀ (ks : List Nat) (st : Sd), ks.Nodup → (∀ u ∈ ks, IsPl (getS S u) (st.sent u)) → PumpA S ks st (pump S ks st).1 (pump S ks st).2
  | [], st, _, _ => ⟨Kept.refl _, by simp, by simp [pump], fun _ _ => rfl, ⟨[], by simp [pump], by simp, by simp [pump, bitsF, sumN]⟩, .inr rfl, fun _ => rfl, fun _ h => h, fun _ => .inl rfl, fun _ _ => ⟨rfl, fun x hx => .inl hx⟩⟩
  | u :: ks, st, hn, hp => by
    have hn' := List.nodup_cons.1 hn
    have h1 := pumpU_is (hok u) u 62 st (hp u (by simp))
    obtain ⟨st1, hst1⟩ : ∃ s, (pumpU (getS S u) u 62 st).2 = s := ⟨_, rfl⟩
    obtain ⟨o1, ho1⟩ : ∃ s, (pumpU (getS S u) u 62 st).1 = s := ⟨_, rfl⟩
    rw [hst1, ho1] at h1
    have hne : ∀ j ∈ ks, j ≠ u := fun j hj e => hn'.1 (e ▸ hj)
    have ih := pump_is hok ks st1 hn'.2 (fun j hj => by rw [h1.other j (hne j hj)]; exact hp j (by simp [hj]))
    have he : pump S (u :: ks) st = (o1 ++ (pump S ks st1).1, (pump S ks st1).2) := by
      show ((pumpU (getS S u) u 62 st).1 ++ (pump S ks (pumpU (getS S u) u 62 st).2).1, (pump S ks (pumpU (getS S u) u 62 st).2).2) = _
      rw [hst1, ho1]
    rw [he]
    obtain ⟨o2, ho2⟩ : ∃ s, (pump S ks st1).1 = s := ⟨_, rfl⟩
    obtain ⟨st2, hst2⟩ : ∃ s, (pump S ks st1).2 = s := ⟨_, rfl⟩
    rw [ho2, hst2] at ih ⊢
    simp only
    have ha := h1.chain.all (hok u)
    have hs1 : ∀ x ∈ o1, x.f.series = u := fun x hx => (ha x hx).2.1
    have hs2 : ∀ x ∈ o2, x.f.series ≠ u := fun x hx e => hn'.1 (e ▸ (ih.ser x hx).1)
    obtain ⟨l1, a1, a2, a3⟩ := h1.ws
    obtain ⟨l2, b1, b2, b3⟩ := ih.ws
    have hws : st2.ws = st.ws ++ (l1 ++ l2) := by rw [b1, a1, List.append_assoc]
    refine ⟨h1.kept.trans ih.kept, fun v hv => ?_, fun x hx => ?_, fun j hj => ?_, ⟨l1 ++ l2, hws, fun x hx => ?_, ?_⟩, ?_, fun h => ?_, fun j hj => ?_, fun j => ?_, fun j hj => ?_⟩
    · rw [List.filter_append]
      by_cases hvu : v = u
      · subst hvu
        rw [filt_all hs1, filt_none hs2, List.append_nil, ih.other v hn'.1]
        exact h1.chain
      · have hv2 : v ∈ ks := by rcases List.mem_cons.1 hv with h | h; exact absurd h hvu; exact h
        rw [filt_none (fun x hx e => hvu (e.symm.trans (hs1 x hx))), List.nil_append, ← h1.other v hvu]
        exact ih.chain v hv2
    · rcases List.mem_append.1 hx with hx | hx
      · exact ⟨by rw [hs1 x hx]; simp, (ha x hx).1⟩
      · exact ⟨by simp [(ih.ser x hx).1], (ih.ser x hx).2⟩
    · simp only [List.mem_cons, not_or] at hj
      rw [ih.other j hj.2, h1.other j hj.1]
    · rcases List.mem_append.1 hx with hx | hx
      · exact ⟨u, by simp, a2 x hx⟩
      · obtain ⟨v, hv, hq⟩ := b2 x hx
        exact ⟨v, by simp [hv], hq⟩
    · rw [sumN_append, a3, b3]
      unfold bitsF
      rw [List.map_append, List.sum_append]
    · by_cases h2 : o2 = []
      · have e2 := ih.no h2
        rw [e2, h2, List.append_nil]
        exact h1.sum
      · rcases ih.sum with h3 | h3
        · left; rw [h1.kept.most] at h3; exact h3
        · exact absurd h3 h2
    · have e1 := List.append_eq_nil_iff.1 h
      rw [ih.no e1.2, h1.no e1.1]
    · refine ih.pl j ?_
      by_cases hju : j = u
      · subst hju; exact h1.chain.isPl (hok j) hj
      · rw [h1.other j hju]; exact hj
    · have hnow : st1.now + st1.tk = st.now + st.tk := by rw [h1.kept.now, h1.kept.tk]
      have h1t : tget st1.ts j = tget st.ts j ∨ (tget st.ts j = none ∧ tget st1.ts j = Option.some ⟨j, 0, st.now + st.tk⟩) := by
        by_cases h0 : o1 = []
        · rw [h1.no h0]; exact .inl rfl
        · rw [h1.ts h0]; exact tget_tstart _ _ _ _ _
      rcases ih.ts j with h3 | ⟨h3, h4⟩
      · rw [h3]; exact h1t
      · rw [hnow] at h4
        rcases h1t with h5 | ⟨h5, h6⟩
        · exact .inr ⟨by rw [← h5]; exact h3, h4⟩
        · rw [h3] at h6; cases h6
    · obtain ⟨c1, c2⟩ := ih.run j hj
      have hj1 : tget st1.ts j = none := by
        rcases ih.ts j with h3 | ⟨h3, h4⟩
        · rw [← h3]; exact hj
        · exact h3
      by_cases h0 : o1 = []
      · rw [h1.no h0] at c1 c2
        exact ⟨c1, c2⟩
      · have hju : u ≠ j := by
          rintro rfl
          have := tget_start st.ts u st.now st.tk
          rw [← h1.ts h0, hj1] at this
          cases this
        refine ⟨by rw [c1]; exact h1.other j (Ne.symm hju), fun x hx => ?_⟩
        rcases c2 x hx with h6 | h6
        · rw [a1] at h6
          rcases List.mem_append.1 h6 with h7 | h7
          · exact .inl h7
          · right
            rw [(a2 x h7).1]
            intro e
            exact hju (by omega)
        · exact .inr h6
end
section
open Go.RowKit

theorem mem_tput {L : List Tm} {x y : Tm} (h : x ∈ tput L y) : x = y ∨ x ∈ L := by
  unfold tput at h
  rcases List.mem_append.1 h with h | h
  · exact .inr (List.mem_filter.1 ((List.takeWhile_sublist _).subset h)).1
  · rcases List.mem_cons.1 h with h | h
    · exact .inl h
    · exact .inr (List.mem_filter.1 ((List.dropWhile_sublist _).subset h)).1
theorem mem_tstart {L : List Tm} {u now tk : Nat} {x : Tm} (h : x ∈ tstart L u now tk) : x = ⟨u, 0, now + tk⟩ ∨ x ∈ L := by
  unfold tstart at h
  cases hq : tget L u with
  | none => rw [hq] at h; exact mem_tput h
  | some y => rw [hq] at h; exact .inr h
theorem mem_tdel {L : List Tm} {u : Nat} {x : Tm} (h : x ∈ tdel L u) : x ∈ L := (List.mem_filter.1 h).1
theorem pump_ts {S : List (Nat × Sr)} (hok : ∀ u, SrOk (getS S u)) : ∀ (ks : List Nat) (st : Sd), ks.Nodup → (∀ u ∈ ks, IsPl (getS S u) (st.sent u)) → ∀ x ∈ (pump S ks st).2.ts, x ∈ st.ts ∨ (x.s ∈ ks ∧ x.tr = 0)
  | [], st, _, _, x, hx => .inl hx
  | u :: ks, st, hn, hp, x, hx => by
    have hn' := List.nodup_cons.1 hn
    have h1 := pumpU_is (hok u) u 62 st (hp u (by simp))
    obtain ⟨st1, hst1⟩ : ∃ s, (pumpU (getS S u) u 62 st).2 = s := ⟨_, rfl⟩
    rw [hst1] at h1
    have hne : ∀ j ∈ ks, j ≠ u := fun j hj e => hn'.1 (e ▸ hj)
    have he : (pump S (u :: ks) st).2 = (pump S ks st1).2 := by
      show (pump S ks (pumpU (getS S u) u 62 st).2).2 = _
      rw [hst1]
    rw [he] at hx
    rcases pump_ts hok ks st1 hn'.2 (fun j hj => by rw [h1.other j (hne j hj)]; exact hp j (by simp [hj])) x hx with h2 | ⟨h2, h3⟩
    · by_cases h0 : (pumpU (getS S u) u 62 st).1 = []
      · rw [h1.no h0] at h2; exact .inl h2
      · rw [h1.ts h0] at h2
        rcases mem_tstart h2 with rfl | h2
        · exact .inr ⟨by simp, rfl⟩
        · exact .inl h2
    · exact .inr ⟨by simp [h2], h3⟩
structure SdInv (S : List (Nat × Sr)) (T : Nat) (st : Sd) : Prop where
  plc : ∀ u, IsPl (getS S u) (st.come u)
  pls : ∀ u, IsPl (getS S u) (st.sent u)
  ts : ∀ x ∈ st.ts, x.s ∈ S.map (·.1) ∧ x.tr ≤ T
theorem SdInv.pump {S : List (Nat × Sr)} {T : Nat} {st : Sd} (hok : ∀ u, SrOk (getS S u)) (h : SdInv S T st) {ks : List Nat} (hn : ks.Nodup) (hk : ∀ u ∈ ks, u ∈ S.map (·.1)) : SdInv S T (pump S ks st).2 := by
  have hp := pump_is hok ks st hn (fun u _ => h.pls u)
  refine ⟨fun u => by rw [hp.kept.come]; exact h.plc u, fun u => hp.pl u (h.pls u), fun x hx => ?_⟩
  rcases pump_ts hok ks st hn (fun u _ => h.pls u) x hx with h1 | ⟨h1, h2⟩
  · exact h.ts x h1
  · exact ⟨hk _ h1, by omega⟩
theorem getS_in {S : List (Nat × Sr)} {u : Nat} (h : getS S u ≠ Sr.zero) : u ∈ S.map (·.1) := by
  unfold getS at h
  cases hq : S.find? (fun x => x.1 == u) with
  | none => rw [hq] at h; exact absurd rfl h
  | some y =>
    have h1 := List.find?_some hq
    have h2 := List.mem_of_find?_eq_some hq
    have : y.1 = u := by simpa using h1
    exact List.mem_map.2 ⟨y, h2, this⟩
theorem zero_pl {p : Pl} (h : IsPl Sr.zero p) : p = Sr.zero.fin := by
  obtain ⟨c, b, hh⟩ := h
  rcases hh.at_eq with ⟨h1, _⟩ | ⟨h1, h2, h3⟩
  · simp [Sr.zero] at h1
  · refine has_fin hh ?_
    have := hh.2.1
    rw [← h2] at this ⊢
    simp [Sr.zero] at this ⊢
    exact this
theorem in_of_ne {S : List (Nat × Sr)} {u : Nat} {p : Pl} (hp : IsPl (getS S u) p) (hne : p ≠ (getS S u).fin) : u ∈ S.map (·.1) := by
  refine getS_in (fun h => hne ?_)
  rw [h] at hp ⊢
  exact zero_pl hp
theorem isPl_fset {S : List (Nat × Sr)} {f : Nat → Pl} (h : ∀ v, IsPl (getS S v) (f v)) {u : Nat} {p : Pl} (hp : IsPl (getS S u) p) : ∀ v, IsPl (getS S v) (fset f u p v) := by
  intro v
  unfold fset
  split
  · rename_i hx; subst hx; exact hp
  · exact h v
theorem SdInv.back {S : List (Nat × Sr)} {T : Nat} {st : Sd} (h : SdInv S T st) (u : Nat) : SdInv S T (st.back u) := ⟨h.plc, isPl_fset h.pls (h.plc u), h.ts⟩
theorem SdInv.anew {S : List (Nat × Sr)} {T : Nat} {st : Sd} (hok : ∀ u, SrOk (getS S u)) (h : SdInv S T st) (u : Nat) : SdInv S T (anewS (getS S u) u st).2 := by
  have hb := h.back u
  have hz : IsPl (getS S u) ⟨(st.come u).chunk, 0, 0⟩ := by
    refine isPl_zero (hok u) _ ?_
    obtain ⟨c, b, hh⟩ := h.plc u
    exact (has_le (hok u) hh).2.2
  unfold anewS
  simp only
  cases hc : cutS (getS S u) u ⟨((st.back u).come u).chunk, 0, 0⟩ 1073741824 with
  | none => exact hb
  | some y =>
    obtain ⟨f, to⟩ := y
    have k := cutS_ok (hok u) hc
    have hne : (⟨(st.come u).chunk, 0, 0⟩ : Pl) ≠ (getS S u).fin := fun e => by
      have := (cutS_none (most := 1073741824) (u := u) hz).2 e
      rw [show (st.back u).come u = st.come u from rfl, this] at hc
      cases hc
    refine ⟨hb.plc, isPl_fset hb.pls k.pl, fun x hx => ?_⟩
    rcases mem_tput hx with rfl | hx
    · exact ⟨in_of_ne hz hne, Nat.zero_le _⟩
    · exact hb.ts x hx
theorem SdInv.take {S : List (Nat × Sr)} {T : Nat} {st : Sd} (hok : ∀ u, SrOk (getS S u)) (h : SdInv S T st) {ks : List Nat} (hn : ks.Nodup) (hk : ∀ u ∈ ks, u ∈ S.map (·.1)) (kd e u sum : Nat) (p : Pl) : SdInv S T (takeS S ks st kd e u p sum).2 := by
  unfold takeS
  split
  · exact h
  · cases hh : hasS (getS S u) p with
    | none => exact h
    | some y =>
      obtain ⟨c, b⟩ := y
      have hp : IsPl (getS S u) p := ⟨c, b, hasS_iff.1 hh⟩
      simp only
      split
      · exact h
      · split
        · exact h.anew hok u
        · refine SdInv.pump hok ?_ hn hk
          have h1 : SdInv S T { st with come := fset st.come u p, ws := outW (ackQ (u : Nat) p.w) st.ws } := ⟨isPl_fset h.plc hp, h.pls, h.ts⟩
          obtain ⟨s1, hs1⟩ : ∃ s : Sd, ({ st with come := fset st.come u p, ws := outW (ackQ (u : Nat) p.w) st.ws } : Sd) = s := ⟨_, rfl⟩
          rw [hs1] at h1
          have h2 : SdInv S T (if kd = 5 then s1.back u else s1) := by split; exact h1.back u; exact h1
          obtain ⟨s2, hs2⟩ : ∃ s : Sd, (if kd = 5 then s1.back u else s1) = s := ⟨_, rfl⟩
          rw [hs2] at h2
          have h3 : SdInv S T (if bef (s2.sent u).w p.w = true then { s2 with sent := fset s2.sent u p } else s2) := by
            split
            · exact ⟨h2.plc, isPl_fset h2.pls hp, h2.ts⟩
            · exact h2
          obtain ⟨s3, hs3⟩ : ∃ s : Sd, (if bef (s2.sent u).w p.w = true then { s2 with sent := fset s2.sent u p } else s2) = s := ⟨_, rfl⟩
          rw [hs3] at h3
          simp only [hs1, hs2, hs3]
          split
          · exact h3
          · split
            · exact ⟨h3.plc, h3.pls, fun x hx => h3.ts x (mem_tdel hx)⟩
            · rename_i hf
              refine ⟨h3.plc, h3.pls, fun x hx => ?_⟩
              rcases mem_tput hx with rfl | hx
              · exact ⟨in_of_ne hp hf, Nat.zero_le _⟩
              · exact h3.ts x hx
theorem SdInv.due {S : List (Nat × Sr)} {T : Nat} {st : Sd} (h : SdInv S T st) (u : Nat) : SdInv S T (dueS S st u) := by
  have hb := h.back u
  unfold dueS
  simp only
  split
  · exact ⟨hb.plc, hb.pls, fun x hx => hb.ts x (mem_tdel hx)⟩
  · exact hb
theorem SdInv.dues {S : List (Nat × Sr)} {T : Nat} : ∀ (D : List Nat) {st : Sd}, SdInv S T st → SdInv S T (D.foldl (dueS S) st)
  | [], _, h => h
  | u :: D, _, h => SdInv.dues D (h.due u)
theorem tupd_tr (now tk : Nat) (x : Tm) : (tupd now tk x).tr ≤ x.tr + 1 := by unfold tupd; split <;> simp
theorem SdInv.tick {S : List (Nat × Sr)} {T : Nat} {st : Sd} (hok : ∀ u, SrOk (getS S u)) (h : SdInv S T st) {ks : List Nat} (hn : ks.Nodup) (hk : ∀ u ∈ ks, u ∈ S.map (·.1)) (n : Nat) : SdInv S (T + 1) (tickS S ks st n).2 := by
  unfold tickS
  simp only
  have h0 : SdInv S (T + 1) ({ st with now := st.now + n, ts := st.ts.map (tupd (st.now + n) st.tk) } : Sd) := by
    refine ⟨h.plc, h.pls, fun x hx => ?_⟩
    obtain ⟨y, hy, rfl⟩ := List.mem_map.1 hx
    rw [tupd_s]
    have := tupd_tr (st.now + n) st.tk y
    have := h.ts y hy
    exact ⟨this.1, by omega⟩
  exact SdInv.pump hok (SdInv.dues _ h0) hn hk
def sdNew (ep : Nat) (most : Int) (tk : Nat) : Sd := ⟨ep, 0, most, tk, fun _ => Pl.zero, fun _ => Pl.zero, [], []⟩
theorem SdInv.new {S : List (Nat × Sr)} (hok : ∀ u, SrOk (getS S u)) (ep : Nat) (most : Int) (tk : Nat) : SdInv S 0 (sdNew ep most tk) := ⟨fun u => isPl_zero (hok u) 0 (Nat.zero_le _), fun u => isPl_zero (hok u) 0 (Nat.zero_le _), fun x hx => by simp [sdNew] at hx⟩
theorem SdInv.mono {S : List (Nat × Sr)} {T T' : Nat} {st : Sd} (h : SdInv S T st) (hT : T ≤ T') : SdInv S T' st := ⟨h.plc, h.pls, fun x hx => ⟨(h.ts x hx).1, by have := (h.ts x hx).2; omega⟩⟩
theorem tsort_len {L : List Tm} (h : TSort L) {K : List Nat} (hs : ∀ x ∈ L, x.s ∈ K) : L.length ≤ K.length := by
  have hnd : (L.map (·.s)).Nodup := h.imp (fun hlt => Nat.ne_of_lt hlt)
  have := nodup_len (L.map (·.s)) K hnd (fun i hi => by obtain ⟨x, hx, rfl⟩ := List.mem_map.1 hi; exact hs x hx)
  simpa using this
end
section
open Go.RowKit

abbrev sS1 : List (Nat × Sr) := [(5, ⟨[], [⟨10, 1⟩]⟩)]
theorem sS1_get : getS sS1 5 = ⟨[], [⟨10, 1⟩]⟩ := rfl
abbrev sFin : Pl := ⟨0, 128, 1⟩
theorem sFin_eq : (⟨[], [⟨10, 1⟩]⟩ : Sr).fin = sFin := by decide +kernel
def sSum : Nat := sumP [⟨10, 1⟩] 1
def sK0 : Sd := sdNew 3 500 10
def sP1 : List Ft × Sd := pump sS1 [5] sK0
def sP2 : List Ft × Sd := pump sS1 [5] sP1.2
def sP3 : List Ft × Sd := tickS sS1 [5] sP2.2 10
def sP4 : (List Ft × Bool × Nat) × Sd := takeS sS1 [5] sP3.2 4 3 5 sFin sSum
theorem sk1 : sP1.1.map (fun x => x.f.bits.length) = [128] := by decide +kernel
theorem sk2 : sP2.1.length = 0 := by decide +kernel
theorem sk3 : sP3.1.length = 1 := by decide +kernel
theorem sk4 : sP4.1.1.length = 0 ∧ sP4.1.2.1 = true ∧ sP4.1.2.2 = 0 := by decide +kernel
theorem sk5 : backlogS sS1 [5] sP4.2 = 0 ∧ sumN sP4.2.ws = 0 ∧ sP4.2.e = 3 := by decide +kernel
theorem s_put1 : putS 4 [] 5 ⟨10, 1⟩ = sS1 := by rfl
theorem s_may1 : (getS [] 5).may 10 := by simp [getS, Sr.may, Sr.zero]
end
end Go.Proofs.YtnihngljmmbenaaGreatDoor
