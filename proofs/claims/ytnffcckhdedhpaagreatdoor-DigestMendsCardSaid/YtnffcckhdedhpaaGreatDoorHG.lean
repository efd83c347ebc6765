import Derived.Test.YtnffcckhdedhpaaGreatDoorLD
import Derived.Test.YtnffcckhdedhpaaGreatDoorLLaid
import Derived.Test.YtnffcckhdedhpaaGreatDoorHC
import Derived.Test.YtnffcckhdedhpaaGreatDoorGB
import Derived.Test.YtnffcckhdedhpaaGreatDoorGC
import Derived.Test.YtnffcckhdedhpaaGreatDoorGA
import Derived.Lib.BufferRead
import Derived.Test.YtnffcckhdedhpaaGreatDoorKB
import Derived.Test.YtnffcckhdedhpaaGreatDoorKA
namespace Go.Proofs.YtnffcckhdedhpaaGreatDoor
set_option linter.unusedVariables false
set_option linter.unusedSimpArgs false
section
open Go.RowKit
def RiseS (s : Sr) : Prop := ∀ k c d, s.chunks[k]? = some c → s.chunks[k + 1]? = some d → ∀ h : 0 < d.length, (knowC En.zero c).last < d[0].t
theorem RiseS.zero : RiseS Sr.zero := by
 intro k c d h1 h2; simp [Sr.chunks, Sr.zero] at h2
theorem getLast_at {l : List (List Sm)} {k : Nat} {c : List Sm} (h : l[k]? = some c) (hk : k + 1 = l.length) : l.getLast? = some c := by
 rw [List.getLast?_eq_getElem?, show l.length - 1 = k by omega]; exact h
theorem rise_put {sz : Nat} {s : Sr} (h : RiseS s) {x : Sm} (hm : s.may x.t) : RiseS (s.put sz x) := by
 have key : ∀ k c d, (s.cl ++ [s.op ++ [x]])[k]? = some c → (s.cl ++ [s.op ++ [x]])[k + 1]? = some d → ∀ h : 0 < d.length, (knowC En.zero c).last < d[0].t := by
  intro k c d h1 h2 hd; have hk : k + 1 < (s.cl ++ [s.op ++ [x]]).length := (List.getElem?_eq_some_iff.1 h2).1; rw [List.length_append, List.length_singleton] at hk; have hkl : k < s.cl.length := by omega
  rw [List.getElem?_append_left hkl] at h1; rcases Nat.lt_or_ge (k + 1) s.cl.length with h3 | h3
  · rw [List.getElem?_append_left h3] at h2; refine h k c d ?_ ?_ hd
    · unfold Sr.chunks; rw [List.getElem?_append_left hkl]; exact h1
    · unfold Sr.chunks; rw [List.getElem?_append_left h3]; exact h2
  · have hke : k + 1 = s.cl.length := by omega
    rw [List.getElem?_append_right h3, hke, Nat.sub_self] at h2; simp at h2; subst h2; by_cases hop : s.op = []
    · unfold Sr.may at hm; rw [if_pos hop] at hm; have e : (s.op ++ [x])[0]'hd = x := by simp [hop]
      rw [e]; rcases hm with hm | hm
      · rw [hm] at hkl; simp at hkl
      · rw [last_ahead s (getLast_at h1 hke)] at hm; exact hm
    · have ho : 0 < s.op.length := List.length_pos_iff.2 hop; have := h k c s.op (by unfold Sr.chunks; rw [List.getElem?_append_left hkl]; exact h1) (by unfold Sr.chunks; rw [List.getElem?_append_right h3, hke, Nat.sub_self]; rfl) ho; rw [List.getElem_append_left ho]; exact this
 unfold Sr.put; split
 · intro k c d h1 h2 hd; unfold Sr.chunks at h1 h2; simp only at h1 h2; have hk : k + 1 < (s.cl ++ [s.op ++ [x]] ++ [[]]).length := (List.getElem?_eq_some_iff.1 h2).1; rcases Nat.lt_or_ge (k + 1) (s.cl ++ [s.op ++ [x]]).length with h3 | h3
   · rw [List.getElem?_append_left h3] at h2; rw [List.getElem?_append_left (by omega)] at h1; exact key k c d h1 h2 hd
   · rw [List.getElem?_append_right h3] at h2; rw [List.length_append, List.length_singleton] at hk; rw [show k + 1 - (s.cl ++ [s.op ++ [x]]).length = 0 by omega] at h2; simp at h2; subst h2; simp at hd
 · intro k c d h1 h2 hd; exact key k c d h1 h2 hd
theorem rise_step {sz : Nat} {S : List (Nat × Sr)} (h : ∀ x ∈ S, RiseS x.2) (o : Nat × Sm) : ∀ x ∈ stepS sz S o, RiseS x.2 := by
 unfold stepS; split
 · rename_i hm
   have hg := getS_mem h RiseS.zero o.1; unfold putS; cases hq : S.findIdx? (fun y => y.1 == o.1) with
   | some i =>
    intro x hx; rcases List.mem_or_eq_of_mem_set hx with h1 | rfl
    · exact h x h1
    · exact rise_put hg hm
   | none =>
    intro x hx; rcases List.mem_append.1 hx with h1 | h1
    · exact h x h1
    · simp at h1; subst h1; exact rise_put RiseS.zero (by simp [Sr.may, Sr.zero])
 · exact h
theorem rise_lay {sz : Nat} (l : List (Nat × Sm)) : ∀ x ∈ layS sz l, RiseS x.2 := by
 unfold layS; have : ∀ (l : List (Nat × Sm)) (S : List (Nat × Sr)), (∀ x ∈ S, RiseS x.2) → ∀ x ∈ l.foldl (stepS sz) S, RiseS x.2 := by
  intro l
  induction l with
  | nil => intro S h; exact h
  | cons o l ih => intro S h; exact ih _ (rise_step h o)
 exact this l [] (by simp)
theorem updS_mem {S : List (Nat × Sr)} {id : Nat} {s : Sr} : ∀ x ∈ updS S id s, x.1 = id ∨ x ∈ S := by
 unfold updS; cases S.findIdx? (fun y => y.1 == id) with
 | some i =>
  intro x hx; rcases List.mem_or_eq_of_mem_set hx with h | rfl
  · exact .inr h
  · exact .inl rfl
 | none =>
  intro x hx; rcases List.mem_append.1 hx with h | h
  · exact .inr h
  · simp at h; subst h; exact .inl rfl
theorem take_any {base : Nat} {w : World} {b n sz mb : Nat} {L : List Se} (h : BkAt base w b n sz mb L) (hbw : base ≤ w.heap.size) (hT : TabW w) (hn : L.length < n) (hn2 : n ≤ 64) (hsz : 1 ≤ sz ∧ sz ≤ 24) (f : Fi) (hf : FiOk w f) {s : Sr} (hs : getS (bkOf L) f.id = s) (hcl : s.cl.length ≤ 900) {er : Nat} {cs : List Sm} (hc : TakeB s sz f er cs) :
    Calls Tryz.prog 19 #[.pointer (some ⟨b, 0, none⟩), f.v] w (TakePost w base b n sz mb L (updS (bkOf L) f.id (s.with_ cs f.cl)) er (f.cl = true ∨ cs.length < sz)) := by
  have hnd := bk_nodup h; rcases get_or L f.id with ⟨i, hi, h1, h2⟩ | ⟨h1, h2⟩
  · rw [h2] at hs; subst hs; have hib : i < (bkOf L).length := by simpa using hi
    have e : updS (bkOf L) f.id (L[i].s.with_ cs f.cl) = (bkOf L).set i (f.id, L[i].s.with_ cs f.cl) := by
     have k := findIdx_id hnd hib; have e1 : (bkOf L)[i].1 = f.id := by simp [h1]
     rw [e1] at k; unfold updS; rw [k]
    rw [e]; exact take_old h hbw hT hn hn2 hsz f hf hi h1 hcl hc
  · rw [h2] at hs; subst hs; have e : updS (bkOf L) f.id (Sr.zero.with_ cs f.cl) = bkOf L ++ [(f.id, Sr.zero.with_ cs f.cl)] := by
     unfold updS; rw [findIdx_no (fun x hx => by obtain ⟨y, hy, rfl⟩ := List.mem_map.1 hx; exact h1 y hy)]
    rw [e]; exact take_new h hbw hT hn hn2 hsz f hf h1 hc
end
section
open Go.RowKit
theorem nodup_le : ∀ (l m : List Nat), l.Nodup → (∀ i ∈ l, i ∈ m) → l.length ≤ m.length
  | [], m, _, _ => Nat.zero_le _
  | a :: l, m, hn, h => by
   have ha : a ∈ m := h a (by simp); have hn' := List.nodup_cons.1 hn; have ih := nodup_le l (m.erase a) hn'.2 (fun i hi => (List.mem_erase_of_ne (by rintro rfl; exact hn'.1 hi)).2 (h i (by simp [hi]))); rw [List.length_erase_of_mem ha] at ih; have : 0 < m.length := List.length_pos_of_mem ha; simp; omega
theorem Sl.takeN {α : Type} {sz : Nat} {cells : α → List Value} {w : World} {a : Option Addr} {cap : Nat} {xs : List α} (h : Sl sz cells w a cap xs) (n : Nat) : Sl sz cells w a cap (xs.take n) :=
 ⟨by rw [List.length_take]; have := h.le; omega, h.max, h.nul, fun i x hx => h.rec_ i x (by rw [List.getElem?_take] at hx; split at hx; exact hx; cases hx)⟩
end
end Go.Proofs.YtnffcckhdedhpaaGreatDoor
