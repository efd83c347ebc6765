import Derived.Test.YtoolooffpphmdaaGreatDoorHD
import Derived.Test.YtoolooffpphmdaaGreatDoorGF
namespace Go.Proofs.YtoolooffpphmdaaGreatDoor
set_option linter.unusedVariables false
set_option linter.unusedSimpArgs false
section
open Go.RowKit
theorem last_ahead (s : Sr) {c : List Sm} (h : s.cl.getLast? = some c) : s.ahead = (knowC En.zero c).last := by unfold Sr.ahead; rw [h]
theorem getS_mem {S : List (Nat × Sr)} {P : Sr → Prop} (h : ∀ x ∈ S, P x.2) (h0 : P Sr.zero) (id : Nat) : P (getS S id) := by
 unfold getS; cases hq : S.find? (fun x => x.1 == id) with
 | none => exact h0
 | some y => exact h y (List.mem_of_find?_eq_some hq)
theorem getS_no {S : List (Nat × Sr)} {id : Nat} (h : ∀ x ∈ S, x.1 ≠ id) : getS S id = Sr.zero := by
 unfold getS; rw [List.find?_eq_none.2 (fun x hx => by simpa using h x hx)]; rfl
end
section
open Go.RowKit
def RiseL (l : List Sm) : Prop := l.Pairwise (fun a b => a.t < b.t)
theorem rise_snoc {l : List Sm} (h : RiseL l) {x : Sm} (hx : ∀ l' y, l = l' ++ [y] → y.t < x.t) : RiseL (l ++ [x]) := by
 refine List.pairwise_append.2 ⟨h, by simp, fun a ha b hb => ?_⟩; rw [List.mem_singleton] at hb; subst hb; rcases List.eq_nil_or_concat l with rfl | ⟨l', y, rfl⟩
 · simp at ha
 · have hy := hx l' y (by simp); rw [List.concat_eq_append] at h ha; rcases List.mem_append.1 ha with h1 | h1
   · have := (List.pairwise_append.1 h).2.2 a h1 y (by simp); omega
   · rw [List.mem_singleton] at h1; subst h1; exact hy
def fromN (l : List Sm) (t : Int) : Nat := (l.filter fun x => decide (x.t < t)).length
def behindN (l : List Sm) (t : Int) : Nat := (l.filter fun x => decide (x.t ≤ t)).length
def betw (l : List Sm) (a b : Int) : List Sm := l.filter fun x => decide (a ≤ x.t) && decide (x.t ≤ b)
theorem fromN_le (l : List Sm) (t : Int) : fromN l t ≤ l.length := List.length_filter_le _ _
theorem behindN_le (l : List Sm) (t : Int) : behindN l t ≤ l.length := List.length_filter_le _ _
theorem rise_tail {x : Sm} {l : List Sm} (h : RiseL (x :: l)) : RiseL l ∧ ∀ y ∈ l, x.t < y.t := ⟨(List.pairwise_cons.1 h).2, (List.pairwise_cons.1 h).1⟩
theorem filter_no {l : List Sm} {p : Sm → Bool} (h : ∀ y ∈ l, p y = false) : l.filter p = [] := by
 rw [List.filter_eq_nil_iff]; intro y hy; rw [h y hy]; simp
theorem betw_slice {l : List Sm} (h : RiseL l) {a b : Int} (hab : a ≤ b) : fromN l a ≤ behindN l b ∧ (l.take (behindN l b)).drop (fromN l a) = betw l a b := by
 induction l with
 | nil => simp [fromN, behindN, betw]
 | cons x l ih =>
  obtain ⟨h1, h2⟩ := rise_tail h; obtain ⟨i1, i2⟩ := ih h1; unfold fromN behindN betw at *; rcases Int.lt_or_le x.t a with ha | ha
  · have hb : x.t ≤ b := by omega
    have hna : ¬ a ≤ x.t := by omega
    simp only [List.filter_cons, ha, hb, hna, decide_true, decide_false, if_true, Bool.false_and, List.length_cons, List.take_succ_cons, List.drop_succ_cons, Bool.false_eq_true, if_false]; exact ⟨by omega, i2⟩
  · have h3 : l.filter (fun y => decide (y.t < a)) = [] := filter_no (fun y hy => by have := h2 y hy; simp; omega); have hna : ¬ x.t < a := by omega
    rcases Int.lt_or_le b x.t with hb | hb
    · have hnb : ¬ x.t ≤ b := by omega
      have h4 : l.filter (fun y => decide (y.t ≤ b)) = [] := filter_no (fun y hy => by have := h2 y hy; simp; omega); have h5 : l.filter (fun y => decide (a ≤ y.t) && decide (y.t ≤ b)) = [] := filter_no (fun y hy => by have := h2 y hy; simp; omega); simp [List.filter_cons, hna, hnb, h3, h4, h5]
    · rw [h3] at i2; simp only [List.length_nil, List.drop_zero] at i2; simp only [List.filter_cons, ha, hb, hna, h3, decide_true, decide_false, Bool.and_self, if_true, List.length_cons, List.take_succ_cons, Bool.false_eq_true, if_false, List.length_nil, List.drop_zero]; exact ⟨by omega, by rw [i2]⟩
theorem betw_mem {l : List Sm} {a b : Int} {x : Sm} (h : x ∈ betw l a b) : a ≤ x.t ∧ x.t ≤ b := by
 have := (List.mem_filter.1 h).2
 simpa using this
theorem from_iff {l : List Sm} (h : RiseL l) {t : Int} : ∀ {k : Nat} (hk : k < l.length), l[k].t < t ↔ k < fromN l t := by
 induction l with
 | nil => intro k hk; simp at hk
 | cons x l ih =>
  intro k hk; obtain ⟨h1, h2⟩ := rise_tail h; rcases Int.lt_or_le x.t t with hx | hx
  · have e : fromN (x :: l) t = fromN l t + 1 := by unfold fromN; rw [List.filter_cons_of_pos (by simpa using hx)]; rfl
    rw [e]; cases k with
    | zero => simp; exact hx
    | succ k =>
     have := ih h1 (k := k) (by simpa using hk); simp only [List.getElem_cons_succ]; omega
  · have e : fromN (x :: l) t = 0 := by
     unfold fromN; rw [filter_no (fun y hy => ?_)]; rfl; rcases List.mem_cons.1 hy with rfl | hy
     · simp; omega
     · have := h2 y hy; simp; omega
    rw [e]; have : t ≤ ((x :: l)[k]).t := by
     rcases List.mem_cons.1 (List.getElem_mem hk) with h3 | h3
     · rw [h3]; exact hx
     · have := h2 _ h3; omega
    omega
theorem behind_iff {l : List Sm} (h : RiseL l) {t : Int} {k : Nat} (hk : k < l.length) : l[k].t ≤ t ↔ k < behindN l t := by
 have e : behindN l t = fromN l (t + 1) := by
  unfold behindN fromN
  congr 1
  refine List.filter_congr (fun y _ => ?_); rw [Bool.eq_iff_iff]; simp; omega
 rw [e, ← from_iff h hk]; omega
theorem behind_from {l : List Sm} (h : RiseL l) (t : Int) : (∀ hk : fromN l t < l.length, l[fromN l t].t = t → behindN l t = fromN l t + 1) ∧ ((∀ hk : fromN l t < l.length, l[fromN l t].t ≠ t) → behindN l t = fromN l t) := by
 have hf := fromN_le l t; have hb := behindN_le l t; have hfb : fromN l t ≤ behindN l t := by
  rcases Nat.lt_or_ge (behindN l t) (fromN l t) with h1 | h1
  · have h2 := (from_iff h (t := t) (k := behindN l t) (by omega)).2 h1; have h3 := (behind_iff h (t := t) (k := behindN l t) (by omega)).1 (by omega); omega
  · exact h1
 refine ⟨fun hk he => ?_, fun hne => ?_⟩
 · have h1 := (behind_iff h (t := t) hk).1 (by omega); rcases Nat.lt_or_ge (fromN l t + 1) (behindN l t) with h2 | h2
   · have h3 := (behind_iff h (t := t) (k := fromN l t + 1) (by omega)).2 h2; have h4 := (List.pairwise_iff_getElem.1 h) (fromN l t) (fromN l t + 1) hk (by omega) (by omega); omega
   · omega
 · rcases Nat.lt_or_ge (fromN l t) (behindN l t) with h2 | h2
   · have hk : fromN l t < l.length := by omega
     have h3 := (behind_iff h (t := t) hk).2 h2; have h4 : ¬ l[fromN l t].t < t := fun h5 => by have := (from_iff h (t := t) hk).1 h5; omega
     exact absurd (by omega) (hne hk)
   · omega
end
section
open Go.RowKit
theorem layS_ind {sz : Nat} {P : Sr → Prop} (h0 : P Sr.zero) (hp : ∀ s x, P s → s.may x.t → P (s.put sz x)) (l : List (Nat × Sm)) : ∀ x ∈ layS sz l, P x.2 := by
 have step : ∀ (S : List (Nat × Sr)), (∀ x ∈ S, P x.2) → ∀ o : Nat × Sm, ∀ x ∈ stepS sz S o, P x.2 := by
  intro S h o; unfold stepS; split
  · rename_i hm
    have hg := getS_mem h h0 o.1; unfold putS; cases hq : S.findIdx? (fun y => y.1 == o.1) with
    | some i =>
     intro x hx; rcases List.mem_or_eq_of_mem_set hx with h1 | rfl
     · exact h x h1
     · exact hp _ _ hg hm
    | none =>
     intro x hx; rcases List.mem_append.1 hx with h1 | h1
     · exact h x h1
     · simp at h1; subst h1; exact hp _ _ h0 (by simp [Sr.may, Sr.zero])
  · exact h
 unfold layS; have : ∀ (l : List (Nat × Sm)) (S : List (Nat × Sr)), (∀ x ∈ S, P x.2) → ∀ x ∈ l.foldl (stepS sz) S, P x.2 := by
  intro l
  induction l with
  | nil => intro S h; exact h
  | cons o l ih => intro S h; exact ih _ (step S h o)
 exact this l [] (by simp)
theorem may_last {s : Sr} (hc : ∀ c ∈ s.cl, c ≠ []) {t : Int} (hm : s.may t) {l' : List Sm} {y : Sm} (he : s.all = l' ++ [y]) : y.t < t := by
 unfold Sr.may at hm; unfold Sr.all at he; split at hm
 · rename_i ho
   rw [ho, List.append_nil] at he; rcases List.eq_nil_or_concat s.cl with h1 | ⟨cl', c, h1⟩
   · rw [h1] at he; simp at he
   · rw [List.concat_eq_append] at h1; have hcn := hc c (by rw [h1]; simp); rcases List.eq_nil_or_concat c with h2 | ⟨c', z, h2⟩
     · exact absurd h2 hcn
     · rw [List.concat_eq_append] at h2; rw [h1, h2, List.flatten_append] at he; simp only [List.flatten_cons, List.flatten_nil, List.append_nil, ← List.append_assoc] at he; have hz := (List.append_inj' he rfl).2; simp at hz; rcases hm with h3 | h3
       · rw [h1] at h3; simp at h3
       · have : s.ahead = (knowC En.zero c).last := last_ahead s (by rw [h1]; simp); rw [this, h2, knowC_last] at h3; rw [← hz]; exact h3
 · rename_i ho
   rcases List.eq_nil_or_concat s.op with h2 | ⟨c', z, h2⟩
   · exact absurd h2 ho
   · rw [List.concat_eq_append] at h2; rw [h2, ← List.append_assoc] at he; have hz := (List.append_inj' he rfl).2; simp at hz; rw [h2, knowC_last] at hm; rw [← hz]; exact hm
theorem all_rise {sz : Nat} (l : List (Nat × Sm)) : ∀ x ∈ layS sz l, RiseL x.2.all := by
 have := layS_ind (sz := sz) (P := fun s => (∀ c ∈ s.cl, c ≠ []) ∧ RiseL s.all) ⟨by simp [Sr.zero], by simp [Sr.zero, Sr.all, RiseL]⟩ ?_ l
 · exact fun x hx => (this x hx).2
 · intro s x ⟨h1, h2⟩ hm; refine ⟨?_, ?_⟩
   · unfold Sr.put; split
     · intro c hc; rcases List.mem_append.1 hc with h3 | h3
       · exact h1 c h3
       · rw [List.mem_singleton] at h3; subst h3; simp
     · exact h1
   · rw [put_all]; exact rise_snoc h2 (fun l' y he => may_last h1 hm he)
end
section
open Go.RowKit
structure Ag where
 n : Nat
 f : Sm
 l : Sm
 mn : Nat
 mx : Nat
 hi : Nat
 lo : Nat
 deriving DecidableEq
def Ag.zero : Ag := ⟨0, ⟨0, 0⟩, ⟨0, 0⟩, 0, 0, 0, 0⟩
def sumV (l : List Sm) : Nat := (l.map (·.v)).sum
def mnV (m : Nat) (l : List Sm) : Nat := l.foldl (fun a y => min a y.v) m
def mxV (m : Nat) (l : List Sm) : Nat := l.foldl (fun a y => max a y.v) m
def agC : List Sm → Ag
  | [] => Ag.zero
  | x :: l => ⟨l.length + 1, x, (x :: l).getLast (by simp), mnV x.v l, mxV x.v l, sumV (x :: l) / 18446744073709551616, sumV (x :: l) % 18446744073709551616⟩
def agJ (a b : Ag) : Ag :=
 if a.n = 0 then b else if b.n = 0 then a else
  ⟨a.n + b.n, a.f, b.l, min a.mn b.mn, max a.mx b.mx, a.hi + b.hi + (a.lo + b.lo) / 18446744073709551616, (a.lo + b.lo) % 18446744073709551616⟩
theorem mnV_min (m k : Nat) (l : List Sm) : mnV (min m k) l = min m (mnV k l) := by
 unfold mnV
 induction l generalizing k with
 | nil => rfl
 | cons x l ih => rw [List.foldl_cons, List.foldl_cons, Nat.min_assoc, ih]
theorem mxV_max (m k : Nat) (l : List Sm) : mxV (max m k) l = max m (mxV k l) := by
 unfold mxV
 induction l generalizing k with
 | nil => rfl
 | cons x l ih => rw [List.foldl_cons, List.foldl_cons, Nat.max_assoc, ih]
theorem mnV_app (m : Nat) (l : List Sm) (y : Sm) (k : List Sm) : mnV m (l ++ y :: k) = min (mnV m l) (mnV y.v k) := by
 rw [← mnV_min]; unfold mnV; rw [List.foldl_append, List.foldl_cons]
theorem mxV_app (m : Nat) (l : List Sm) (y : Sm) (k : List Sm) : mxV m (l ++ y :: k) = max (mxV m l) (mxV y.v k) := by
 rw [← mxV_max]; unfold mxV; rw [List.foldl_append, List.foldl_cons]
theorem sumV_app (l k : List Sm) : sumV (l ++ k) = sumV l + sumV k := by unfold sumV; rw [List.map_append, List.sum_append]
theorem agJ_agC (l k : List Sm) : agJ (agC l) (agC k) = agC (l ++ k) := by
 cases l with
 | nil => rfl
 | cons x l =>
  cases k with
  | nil => rw [List.append_nil]; rfl
  | cons y k =>
   have e := sumV_app (x :: l) (y :: k); obtain ⟨a, ha⟩ : ∃ a, sumV (x :: l) = a := ⟨_, rfl⟩; obtain ⟨b, hb⟩ : ∃ b, sumV (y :: k) = b := ⟨_, rfl⟩; rw [ha, hb] at e; have e2 : sumV (x :: (l ++ y :: k)) = a + b := e; unfold agJ; simp only [agC, ha, hb, List.cons_append, e2]; rw [if_neg (by omega), if_neg (by omega)]; simp only [Ag.mk.injEq]; refine ⟨by simp; omega, trivial, ?_, (mnV_app _ _ _ _).symm, (mxV_app _ _ _ _).symm, by omega, by omega⟩; have h : ∀ (h1 : (x :: l) ++ (y :: k) ≠ []) (h2 : y :: k ≠ []), ((x :: l) ++ (y :: k)).getLast h1 = (y :: k).getLast h2 := fun h1 h2 => by
    apply Option.some.inj; rw [← List.getLast?_eq_some_getLast, ← List.getLast?_eq_some_getLast, List.getLast?_append]; simp [List.getLast?_cons]
   exact (h _ _).symm
theorem agC_one (x : Sm) (h : x.v < 18446744073709551616) : agC [x] = ⟨1, x, x, x.v, x.v, 0, x.v⟩ := by
 simp [agC, mnV, mxV, sumV]; omega
end
section
open Go.RowKit
def keyB (fr : Int) (st : Nat) (x : Sm) : Nat := (x.t - fr).toNat / st
structure StepG (fr : Int) (st : Nat) (all : List Sm) (gs : List (Nat × List Sm)) (rest : List Sm) : Prop where
 flat : (gs.map (·.2)).flatten ++ rest = all
 ne : ∀ g ∈ gs, g.2 ≠ []
 key : ∀ g ∈ gs, ∀ x ∈ g.2, keyB fr st x = g.1
 sort : gs.Pairwise (fun a b => a.1 < b.1)
 sep : ∀ g ∈ gs, ∀ x ∈ rest, g.1 < keyB fr st x
theorem StepG.nil (fr : Int) (st : Nat) (all : List Sm) : StepG fr st all [] all := ⟨rfl, by simp, by simp, by simp, by simp⟩
theorem keyB_mono {fr : Int} {st : Nat} {x y : Sm} (h : x.t ≤ y.t) : keyB fr st x ≤ keyB fr st y := Nat.div_le_div_right (by omega)
theorem StepG.step {fr : Int} {st : Nat} {all : List Sm} {gs : List (Nat × List Sm)} {rest : List Sm} (h : StepG fr st all gs rest) (hr : RiseL all) {n k : Nat} (hn : 0 < n) (hnl : n ≤ rest.length) (hk : ∀ x ∈ rest.take n, keyB fr st x = k) (hx : ∀ hl : n < rest.length, keyB fr st rest[n] ≠ k) :
    StepG fr st all (gs ++ [(k, rest.take n)]) (rest.drop n) := by
  have hrr : RiseL rest := by
   rw [← h.flat] at hr; exact (List.pairwise_append.1 hr).2.1
  have h0 : 0 < rest.length := by omega
  have hk0 : keyB fr st rest[0] = k := hk _ (by rw [List.mem_take_iff_getElem]; exact ⟨0, by omega, rfl⟩); refine ⟨?_, fun g hg => ?_, fun g hg => ?_, ?_, fun g hg x hxm => ?_⟩
  · rw [List.map_append, List.flatten_append]; simp only [List.map_cons, List.map_nil, List.flatten_cons, List.flatten_nil, List.append_nil]; rw [List.append_assoc, List.take_append_drop]; exact h.flat
  · rcases List.mem_append.1 hg with h1 | h1
    · exact h.ne g h1
    · rw [List.mem_singleton] at h1; subst h1; intro e; have h2 : (rest.take n).length = 0 := by rw [show rest.take n = [] from e]; rfl
      rw [List.length_take] at h2; omega
  · rcases List.mem_append.1 hg with h1 | h1
    · exact h.key g h1
    · rw [List.mem_singleton] at h1; subst h1; exact hk
  · refine List.pairwise_append.2 ⟨h.sort, by simp, fun a ha b hb => ?_⟩; rw [List.mem_singleton] at hb; subst hb; have := h.sep a ha rest[0] (List.getElem_mem _); rw [hk0] at this; exact this
  · rcases List.mem_append.1 hg with h1 | h1
    · exact h.sep g h1 x (List.mem_of_mem_drop hxm)
    · rw [List.mem_singleton] at h1; subst h1; obtain ⟨j, hj, rfl⟩ := List.mem_drop_iff_getElem.1 hxm; have hnl2 : n < rest.length := by omega
      have h2 := hx hnl2; have h3 : k ≤ keyB fr st rest[n] := by
       rw [← hk0]; have := (List.pairwise_iff_getElem.1 hrr) 0 n h0 hnl2 hn; exact keyB_mono (by omega)
      have h4 : keyB fr st rest[n] ≤ keyB fr st rest[n + j] := by
       rcases Nat.eq_zero_or_pos j with e | e
       · subst e; exact Nat.le_refl _
       · have := (List.pairwise_iff_getElem.1 hrr) n (n + j) hnl2 (by omega) (by omega); exact keyB_mono (by omega)
      show k < _
      omega
theorem StepG.len {fr : Int} {st : Nat} {all : List Sm} {gs : List (Nat × List Sm)} {rest : List Sm} (h : StepG fr st all gs rest) : gs.length + rest.length ≤ all.length := by
 rw [← h.flat, List.length_append]; have : ∀ gs : List (Nat × List Sm), (∀ g ∈ gs, g.2 ≠ []) → gs.length ≤ ((gs.map (·.2)).flatten).length := by
  intro gs
  induction gs with
  | nil => intro _; simp
  | cons g gs ih =>
   intro hg; have h1 := ih (fun x hx => hg x (by simp [hx])); have h2 : 0 < g.2.length := List.length_pos_iff.2 (hg g (by simp)); simp only [List.map_cons, List.flatten_cons, List.length_append, List.length_cons]; omega
 have := this gs h.ne; omega
theorem StepG.time {fr : Int} {st : Nat} (hst : 0 < st) {all : List Sm} {gs : List (Nat × List Sm)} {rest : List Sm} (h : StepG fr st all gs rest) (hf : ∀ x ∈ all, fr ≤ x.t) {g : Nat × List Sm} (hg : g ∈ gs) {x : Sm} (hx : x ∈ g.2) : fr + g.1 * st ≤ x.t ∧ x.t < fr + g.1 * st + st := by
 have hxa : x ∈ all := by
  rw [← h.flat]; refine List.mem_append_left _ (List.mem_flatten.2 ⟨g.2, List.mem_map.2 ⟨g, hg, rfl⟩, hx⟩)
 have h1 := hf x hxa; have h2 := h.key g hg x hx; unfold keyB at h2; have h3 := Nat.div_add_mod (x.t - fr).toNat st; have h4 := Nat.mod_lt (x.t - fr).toNat hst; rw [h2] at h3; have h5 : (g.1 : Int) * (st : Int) = ((st * g.1 : Nat) : Int) := by rw [Nat.mul_comm]; push_cast; rfl
 rw [h5]; omega
end
section
open Go.RowKit
structure Grp (fr : Int) (st : Nat) (gs : List (Nat × List Sm)) : Prop where
 ne : ∀ g ∈ gs, g.2 ≠ []
 key : ∀ g ∈ gs, ∀ x ∈ g.2, keyB fr st x = g.1
 sort : gs.Pairwise (fun a b => a.1 < b.1)
theorem StepG.grp {fr : Int} {st : Nat} {all : List Sm} {gs : List (Nat × List Sm)} {rest : List Sm} (h : StepG fr st all gs rest) : Grp fr st gs := ⟨h.ne, h.key, h.sort⟩
theorem Grp.tail {fr : Int} {st : Nat} {g : Nat × List Sm} {gs : List (Nat × List Sm)} (h : Grp fr st (g :: gs)) : Grp fr st gs :=
 ⟨fun x hx => h.ne x (by simp [hx]), fun x hx => h.key x (by simp [hx]), (List.pairwise_cons.1 h.sort).2⟩
theorem grp_no {fr : Int} {st : Nat} {g g' : Nat × List Sm} {t : List (Nat × List Sm)} (h : Grp fr st (g :: t)) (hk : ∀ x ∈ g'.2, keyB fr st x = g'.1) {a c : List Sm} (h1 : g'.2 = g.2 ++ a) (h2 : (t.map (·.2)).flatten = a ++ c) : a = [] := by
 cases a with
 | nil => rfl
 | cons y a =>
  exfalso
  have hy : keyB fr st y = g'.1 := hk y (by rw [h1]; simp); obtain ⟨z, hz⟩ : ∃ z, z ∈ g.2 := by
   have := h.ne g (by simp); exact List.exists_mem_of_ne_nil _ this
  have hgz : keyB fr st z = g.1 := h.key g (by simp) z hz; have hgz2 : keyB fr st z = g'.1 := hk z (by rw [h1]; simp [hz]); cases t with
  | nil => simp at h2
  | cons u t =>
   have hu : u.2 ≠ [] := h.ne u (by simp); obtain ⟨v, l, hv⟩ := List.exists_cons_of_ne_nil hu; rw [List.map_cons, List.flatten_cons, hv] at h2; simp at h2; have hvk : keyB fr st v = u.1 := h.key u (by simp) v (by rw [hv]; simp); have hlt : g.1 < u.1 := (List.pairwise_cons.1 h.sort).1 u (by simp); rw [h2.1] at hvk; omega
theorem grp_head {fr : Int} {st : Nat} {g g' : Nat × List Sm} {t t' : List (Nat × List Sm)} (h : Grp fr st (g :: t)) (h' : Grp fr st (g' :: t')) (he : g.2 = g'.2) : g = g' := by
 obtain ⟨z, hz⟩ : ∃ z, z ∈ g.2 := List.exists_mem_of_ne_nil _ (h.ne g (by simp)); have h1 := h.key g (by simp) z hz; have h2 := h'.key g' (by simp) z (by rw [← he]; exact hz); exact Prod.ext (by rw [← h1, ← h2]) he
theorem grp_uniq {fr : Int} {st : Nat} : ∀ {gs gs' : List (Nat × List Sm)}, Grp fr st gs → Grp fr st gs' → (gs.map (·.2)).flatten = (gs'.map (·.2)).flatten → gs = gs'
  | [], [], _, _, _ => rfl
  | [], g' :: t', _, h', he => by
   exfalso
   have := h'.ne g' (by simp); simp at he; exact this he.1
  | g :: t, [], h, _, he => by
   exfalso
   have := h.ne g (by simp); simp at he; exact this he.1
  | g :: t, g' :: t', h, h', he => by
   simp only [List.map_cons, List.flatten_cons] at he; rcases List.append_eq_append_iff.1 he with ⟨a, h1, h2⟩ | ⟨c, h1, h2⟩
   · have ha := grp_no h (h'.key g' (by simp)) h1 h2; subst ha; rw [List.append_nil] at h1; rw [List.nil_append] at h2; rw [grp_head h h' h1.symm, grp_uniq h.tail h'.tail h2]
   · have hc := grp_no h' (h.key g (by simp)) h1 h2; subst hc; rw [List.append_nil] at h1; rw [List.nil_append] at h2; rw [grp_head h h' h1, grp_uniq h.tail h'.tail h2.symm]
theorem stepG_uniq {fr : Int} {st : Nat} {all : List Sm} {gs gs' : List (Nat × List Sm)} (h : StepG fr st all gs []) (h' : StepG fr st all gs' []) : gs = gs' := by
 refine grp_uniq h.grp h'.grp ?_; have h1 := h.flat; have h2 := h'.flat; rw [List.append_nil] at h1 h2; rw [h1, h2]
def k25 : List Sm := [⟨1, 2⟩, ⟨3, 5⟩, ⟨9, 1⟩]
theorem k25_rise : RiseL k25 := by simp [RiseL, k25]
theorem k25_step {gs : List (Nat × List Sm)} (h : StepG 0 4 (betw k25 0 9) gs []) : gs = [(0, [⟨1, 2⟩, ⟨3, 5⟩]), (2, [⟨9, 1⟩])] := by
 refine stepG_uniq h ⟨by simp [betw, k25], by simp, ?_, by simp, by simp⟩; intro g hg x hx; simp at hg; rcases hg with rfl | rfl
 · simp at hx; rcases hx with rfl | rfl <;> rfl
 · simp at hx; subst hx; rfl
theorem k25_betw : betw k25 2 9 = [⟨3, 5⟩, ⟨9, 1⟩] := by simp [betw, k25]
end
end Go.Proofs.YtoolooffpphmdaaGreatDoor
