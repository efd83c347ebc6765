import Derived.Test.YtnffcckhdedhpaaGreatDoorHD
import Derived.Test.YtnffcckhdedhpaaGreatDoorGF
namespace Go.Proofs.YtnffcckhdedhpaaGreatDoor
set_option linter.unusedVariables false
set_option linter.unusedSimpArgs false
section
open Go.RowKit
theorem last_ahead (s : Sr) {c : List Sm} (h : s.cl.getLast? = some c) : s.ahead = (knowC En.zero c).last := by unfold Sr.ahead; rw [h]
theorem getS_mem {S : List (Nat × Sr)} {P : Sr → Prop} (h : ∀ x ∈ S, P x.2) (h0 : P Sr.zero) (id : Nat) : P (getS S id) := by
 unfold getS; cases hq : S.find? (fun x => x.1 == id) with
 | none => exact h0
 | some y => exact h y (List.mem_of_find?_eq_some hq)
theorem getS_no {S : List (Nat × Sr)} {id : Nat} (h : ∀ x ∈ S, x.1 ≠ id) : getS S id = Sr.zero := by
 unfold getS; rw [List.find?_eq_none.2 (fun x hx => by simpa using h x hx)]; rfl
end
section
open Go.RowKit
def RiseL (l : List Sm) : Prop := l.Pairwise (fun a b => a.t < b.t)
theorem rise_snoc {l : List Sm} (h : RiseL l) {x : Sm} (hx : ∀ l' y, l = l' ++ [y] → y.t < x.t) : RiseL (l ++ [x]) := by
 refine List.pairwise_append.2 ⟨h, by simp, fun a ha b hb => ?_⟩; rw [List.mem_singleton] at hb; subst hb; rcases List.eq_nil_or_concat l with rfl | ⟨l', y, rfl⟩
 · simp at ha
 · have hy := hx l' y (by simp); rw [List.concat_eq_append] at h ha; rcases List.mem_append.1 ha with h1 | h1
   · have := (List.pairwise_append.1 h).2.2 a h1 y (by simp); omega
   · rw [List.mem_singleton] at h1; subst h1; exact hy
end
section
open Go.RowKit
theorem layS_ind {sz : Nat} {P : Sr → Prop} (h0 : P Sr.zero) (hp : ∀ s x, P s → s.may x.t → P (s.put sz x)) (l : List (Nat × Sm)) : ∀ x ∈ layS sz l, P x.2 := by
 have step : ∀ (S : List (Nat × Sr)), (∀ x ∈ S, P x.2) → ∀ o : Nat × Sm, ∀ x ∈ stepS sz S o, P x.2 := by
  intro S h o; unfold stepS; split
  · rename_i hm
    have hg := getS_mem h h0 o.1; unfold putS; cases hq : S.findIdx? (fun y => y.1 == o.1) with
    | some i =>
     intro x hx; rcases List.mem_or_eq_of_mem_set hx with h1 | rfl
     · exact h x h1
     · exact hp _ _ hg hm
    | none =>
     intro x hx; rcases List.mem_append.1 hx with h1 | h1
     · exact h x h1
     · simp at h1; subst h1; exact hp _ _ h0 (by simp [Sr.may, Sr.zero])
  · exact h
 unfold layS; have : ∀ (l : List (Nat × Sm)) (S : List (Nat × Sr)), (∀ x ∈ S, P x.2) → ∀ x ∈ l.foldl (stepS sz) S, P x.2 := by
  intro l
  induction l with
  | nil => intro S h; exact h
  | cons o l ih => intro S h; exact ih _ (step S h o)
 exact this l [] (by simp)
theorem may_last {s : Sr} (hc : ∀ c ∈ s.cl, c ≠ []) {t : Int} (hm : s.may t) {l' : List Sm} {y : Sm} (he : s.all = l' ++ [y]) : y.t < t := by
 unfold Sr.may at hm; unfold Sr.all at he; split at hm
 · rename_i ho
   rw [ho, List.append_nil] at he; rcases List.eq_nil_or_concat s.cl with h1 | ⟨cl', c, h1⟩
   · rw [h1] at he; simp at he
   · rw [List.concat_eq_append] at h1; have hcn := hc c (by rw [h1]; simp); rcases List.eq_nil_or_concat c with h2 | ⟨c', z, h2⟩
     · exact absurd h2 hcn
     · rw [List.concat_eq_append] at h2; rw [h1, h2, List.flatten_append] at he; simp only [List.flatten_cons, List.flatten_nil, List.append_nil, ← List.append_assoc] at he; have hz := (List.append_inj' he rfl).2; simp at hz; rcases hm with h3 | h3
       · rw [h1] at h3; simp at h3
       · have : s.ahead = (knowC En.zero c).last := last_ahead s (by rw [h1]; simp); rw [this, h2, knowC_last] at h3; rw [← hz]; exact h3
 · rename_i ho
   rcases List.eq_nil_or_concat s.op with h2 | ⟨c', z, h2⟩
   · exact absurd h2 ho
   · rw [List.concat_eq_append] at h2; rw [h2, ← List.append_assoc] at he; have hz := (List.append_inj' he rfl).2; simp at hz; rw [h2, knowC_last] at hm; rw [← hz]; exact hm
theorem all_rise {sz : Nat} (l : List (Nat × Sm)) : ∀ x ∈ layS sz l, RiseL x.2.all := by
 have := layS_ind (sz := sz) (P := fun s => (∀ c ∈ s.cl, c ≠ []) ∧ RiseL s.all) ⟨by simp [Sr.zero], by simp [Sr.zero, Sr.all, RiseL]⟩ ?_ l
 · exact fun x hx => (this x hx).2
 · intro s x ⟨h1, h2⟩ hm; refine ⟨?_, ?_⟩
   · unfold Sr.put; split
     · intro c hc; rcases List.mem_append.1 hc with h3 | h3
       · exact h1 c h3
       · rw [List.mem_singleton] at h3; subst h3; simp
     · exact h1
   · rw [put_all]; exact rise_snoc h2 (fun l' y he => may_last h1 hm he)
end
end Go.Proofs.YtnffcckhdedhpaaGreatDoor
