import Derived.Test.YtnffcckhdedhpaaGreatDoorPC
import Derived.Test.YtnffcckhdedhpaaGreatDoorLLaid
namespace Go.Proofs.YtnffcckhdedhpaaGreatDoor
set_option linter.unusedVariables false
set_option linter.unusedSimpArgs false
section
open Go.RowKit
theorem frs_mem {s : Sr} {id n : Nat} {f : Fr} (h : f ∈ s.frs id n) : ∃ k c cl, k < n ∧ s.at_ k = Option.some (c, cl) ∧ c ≠ [] ∧ f = chF id k c cl := by
 unfold Sr.frs at h; obtain ⟨k, hkn, hk⟩ := List.mem_flatMap.1 h; cases ha : s.at_ k with
 | none => rw [ha] at hk; simp at hk
 | some y =>
  obtain ⟨c, cl⟩ := y; rw [ha] at hk; simp only at hk; split at hk
  · simp at hk
  · rename_i hc
    simp only [List.mem_singleton] at hk; exact ⟨k, c, cl, List.mem_range.1 hkn, ha, hc, hk⟩
theorem len_le_sum : ∀ (l : List Nat), (∀ x ∈ l, 1 ≤ x) → l.length ≤ l.sum
  | [], _ => by simp
  | a :: l, h => by
   have := len_le_sum l (fun x hx => h x (by simp [hx])); have := h a (by simp); simp; omega
theorem frs_le {s : Sr} (h : SrOk s) (id : Nat) : (s.frs id (s.cl.length + 1)).length ≤ s.all.length := by
 rw [← frs_sum h id]; have := len_le_sum ((s.frs id (s.cl.length + 1)).map Fr.count) (fun x hx => by
  obtain ⟨f, hf, rfl⟩ := List.mem_map.1 hx; obtain ⟨k, c, cl, _, _, hc, rfl⟩ := frs_mem hf; exact List.length_pos_iff.2 hc)
 simpa using this
theorem sum_set : ∀ (l : List Nat) (i v : Nat) (h : i < l.length), (l.set i v).sum + l[i] = l.sum + v
  | [], i, v, h => by simp at h
  | a :: l, 0, v, h => by simp; omega
  | a :: l, i + 1, v, h => by
   have := sum_set l i v (by simpa using h); simp; omega
def totS (S : List (Nat × Sr)) : Nat := (S.map fun x => x.2.all.length).sum
theorem tot_step {sz : Nat} {S : List (Nat × Sr)} (hn : (S.map (·.1)).Nodup) (o : Nat × Sm) : totS (stepS sz S o) ≤ totS S + 1 := by
 unfold stepS; split
 · by_cases hi : ∃ i, ∃ hi : i < S.length, S[i].1 = o.1
   · obtain ⟨i, hi, he⟩ := hi; rw [← he, putS_old hn hi]; unfold totS; rw [List.map_set]; have := sum_set (S.map fun x => x.2.all.length) i ((S[i].2.put sz o.2).all.length) (by simpa using hi); simp only [put_all, List.length_append, List.length_singleton, List.getElem_map] at this ⊢; omega
   · have hn : ∀ y ∈ S, y.1 ≠ o.1 := by
      intro y hy he; obtain ⟨i, hi', rfl⟩ := List.getElem_of_mem hy; exact hi ⟨i, hi', he⟩
     rw [putS_new hn]; have e : (Sr.zero.put sz o.2).all.length = 1 := by rw [put_all]; rfl
     unfold totS; rw [List.map_append, List.sum_append, List.map_cons, List.map_nil, List.sum_cons, List.sum_nil, e]; omega
 · omega
theorem lay_tot {sz : Nat} (hsz : 1 ≤ sz) (ops : List (Nat × Sm)) : ∀ k, k ≤ ops.length → totS (layS sz (ops.take k)) ≤ k
  | 0, _ => by simp [layS, totS]
  | k + 1, h => by
   have h1 := lay_tot hsz ops k (by omega); have h2 := layI hsz ops k (by omega); rw [layS_take (by omega)]; have := tot_step (sz := sz) h2.ids ops[k]; omega
section
variable {W : World} {base b mb sz : Nat} {L : List Se} {ops : List (Nat × Sm)} {rs : List Rs}
theorem lvs_len (L : List Se) (ids : List Nat) : (lvs L ids).length = (ids.map fun id => (frsB L id).length).sum := by
 unfold lvs lvO; rw [List.length_flatMap]
 congr 1
 simp
theorem sum_ks (g : Nat → Nat) (l : List Nat) : ((srtN l).map g).sum = (l.map g).sum := ((srtN_perm l).map g).sum_nat
theorem lvs_60 (h : Laid W base b mb sz L (layS sz ops) rs) (hsz : 1 ≤ sz) (hol : ops.length ≤ 60) : (lvs L (srtN (L.map (·.id)))).length ≤ 60 := by
 rw [lvs_len, sum_ks]; have h1 : L.map (·.id) = (bkOf L).map (·.1) := by simp
 rw [h1, List.map_map, h.eq]; have ht := lay_tot hsz ops ops.length (Nat.le_refl _); rw [List.take_length] at ht; refine Nat.le_trans ?_ (Nat.le_trans ht hol); unfold totS; have key : ∀ (l : List (Nat × Sr)), (∀ x ∈ l, (frsB L x.1).length ≤ x.2.all.length) → (l.map ((fun id => (frsB L id).length) ∘ fun x => x.1)).sum ≤ (l.map fun x => x.2.all.length).sum := by
  intro l
  induction l with
  | nil => intro _; simp
  | cons a l ih =>
   intro hl; have e1 := ih (fun x hx => hl x (by simp [hx])); have e2 := hl a (by simp); simp only [List.map_cons, List.sum_cons, Function.comp] at e1 ⊢; omega
 refine key _ (fun x hx => ?_); obtain ⟨i, hi, rfl⟩ := List.getElem_of_mem hx; have hg : getS (bkOf L) (layS sz ops)[i].1 = (layS sz ops)[i].2 := by rw [h.eq]; exact getS_at h.I.ids hi
 unfold frsB; rw [hg]; exact frs_le (by rw [← hg]; exact getS_ok h.bk _) _
theorem frsB_ne (h : Laid W base b mb sz L (layS sz ops) rs) {id : Nat} (hid : id ∈ L.map (·.id)) : frsB L id ≠ [] := by
 have h1 : L.map (·.id) = (bkOf L).map (·.1) := by simp
 rw [h1, h.eq] at hid; obtain ⟨x, hx, rfl⟩ := List.mem_map.1 hid; obtain ⟨i, hi, rfl⟩ := List.getElem_of_mem hx; have hg : getS (bkOf L) (layS sz ops)[i].1 = (layS sz ops)[i].2 := by rw [h.eq]; exact getS_at h.I.ids hi
 intro hn; unfold frsB at hn; rw [hg] at hn; have hok : SrOk (layS sz ops)[i].2 := by rw [← hg]; exact getS_ok h.bk _
 have := frs_sum hok (layS sz ops)[i].1; rw [hn] at this; exact (h.I.all _ hx).2 (List.eq_nil_of_length_eq_zero this.symm)
theorem ks_up (h : Laid W base b mb sz L (layS sz ops) rs) : (srtN (L.map (·.id))).Pairwise (· < ·) := by
 have h1 := srtN_sorted (L.map (·.id)); have h2 : (srtN (L.map (·.id))).Nodup := by rw [(srtN_perm _).nodup_iff]; exact h.bk.ids
 rw [List.nodup_iff_pairwise_ne] at h2; exact List.Pairwise.imp₂ (fun _ _ h1 h2 => by omega) h1 h2
theorem lvs_mem {x : Lf} {ids : List Nat} : x ∈ lvs L ids ↔ ∃ id ∈ ids, ∃ f ∈ frsB L id, lfO f = x := by
 unfold lvs lvO; rw [List.mem_flatMap]
 constructor
 · rintro ⟨id, h1, h2⟩; obtain ⟨f, h3, h4⟩ := List.mem_map.1 h2; exact ⟨id, h1, f, h3, h4⟩
 · rintro ⟨id, h1, f, h3, h4⟩; exact ⟨id, h1, List.mem_map.2 ⟨f, h3, h4⟩⟩
theorem lvs_wf (h : BkAt base W b 64 sz mb L) (hcl : ∀ id, (getS (bkOf L) id).cl.length ≤ 900) : ∀ x ∈ lvs L (srtN (L.map (·.id))), x.wf := by
 intro x hx; obtain ⟨id, h1, f, h2, rfl⟩ := lvs_mem.1 hx; rw [(srtN_perm _).mem_iff] at h1; obtain ⟨y, hy, rfl⟩ := List.mem_map.1 h1; obtain ⟨k, c, cl, hk, ha, _, rfl⟩ := frs_mem h2; have := hcl y.id; refine ⟨h.id32 y hy, ?_, ?_, Nat.lt_trans (moreR_lt _ _) (by decide)⟩
 · show k < 4294967296
   omega
 · show c.length < 4294967296
   have hok := getS_ok h y.id; have hc : ChkOk c := by
    unfold Sr.at_ at ha; split at ha
    · simp only [Option.some.injEq, Prod.mk.injEq] at ha; rw [← ha.1]; exact (hok.cl _ (List.getElem_mem _)).2
    · split at ha
      · simp only [Option.some.injEq, Prod.mk.injEq] at ha; rw [← ha.1]; exact hok.op
      · simp at ha
   have := hc.len; omega
end
end
end Go.Proofs.YtnffcckhdedhpaaGreatDoor
