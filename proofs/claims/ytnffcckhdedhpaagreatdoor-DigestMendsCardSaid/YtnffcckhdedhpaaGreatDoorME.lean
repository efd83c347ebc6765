import Derived.Test.YtnffcckhdedhpaaGreatDoorQD
import Derived.Test.YtnffcckhdedhpaaGreatDoorHG
import Derived.Test.YtnffcckhdedhpaaGreatDoorPC
import Derived.Test.YtnffcckhdedhpaaGreatDoorPD
import Derived.Test.YtnffcckhdedhpaaGreatDoorLDle
namespace Go.Proofs.YtnffcckhdedhpaaGreatDoor
set_option linter.unusedVariables false
set_option linter.unusedSimpArgs false
section
open Go.RowKit
structure Front (t s : Sr) (j : Nat) (q : List Sm) (m : Nat) : Prop where
 at_ : s.chunks[j]? = Option.some q
 le : j ≤ s.cl.length
 mle : m ≤ q.length
 lt : j < s.cl.length → m < q.length
 eq : t = ⟨s.cl.take j, q.take m⟩
theorem Front.refl (s : Sr) : Front s s s.cl.length s.op s.op.length :=
 ⟨by simp [Sr.chunks], Nat.le_refl _, Nat.le_refl _, fun h => absurd h (by omega), by simp⟩
theorem Front.put {t s : Sr} {j m : Nat} {q : List Sm} (h : Front t s j q m) (sz : Nat) (x : Sm) : ∃ q', Front t (s.put sz x) j q' m := by
 obtain ⟨h1, h2, h3, h4, h5⟩ := h; unfold Sr.chunks at h1; rcases Nat.lt_or_ge j s.cl.length with hj | hj
 · refine ⟨q, ?_⟩; rw [List.getElem?_append_left hj] at h1; unfold Sr.put; split
   · refine ⟨by unfold Sr.chunks; rw [List.getElem?_append_left (by simp; omega), List.getElem?_append_left hj]; exact h1, by simp; omega, h3, fun _ => h4 hj, ?_⟩; rw [h5, List.take_append_of_le_length h2]
   · exact ⟨by unfold Sr.chunks; rw [List.getElem?_append_left hj]; exact h1, h2, h3, fun _ => h4 hj, h5⟩
 · obtain rfl : j = s.cl.length := by omega
   rw [List.getElem?_append_right (Nat.le_refl _), Nat.sub_self] at h1; simp at h1; subst h1; refine ⟨s.op ++ [x], ?_⟩; unfold Sr.put; split
   · refine ⟨by unfold Sr.chunks; simp, by simp, by simp; omega, fun _ => by simp; omega, ?_⟩; rw [h5, List.take_append_of_le_length (Nat.le_refl _), List.take_append_of_le_length h3]
   · refine ⟨by unfold Sr.chunks; simp, Nat.le_refl _, by simp; omega, fun h => absurd h (by simp), ?_⟩; rw [h5, List.take_append_of_le_length h3]
theorem getS_new {S : List (Nat × Sr)} {id : Nat} (h : ∀ x ∈ S, x.1 ≠ id) (s : Sr) (j : Nat) : getS (S ++ [(id, s)]) j = if id = j then s else getS S j := by
 unfold getS; rw [List.find?_append]; by_cases e : id = j
 · subst e; rw [List.find?_eq_none.2 (fun x hx => by simpa using h x hx)]; simp
 · have : List.find? (fun x : Nat × Sr => x.1 == j) [(id, s)] = none := by simp [e]
   rw [this, Option.or_none, if_neg e]
theorem getS_set {S : List (Nat × Sr)} (hn : (S.map (·.1)).Nodup) {i : Nat} (hi : i < S.length) (s : Sr) (j : Nat) : getS (S.set i (S[i].1, s)) j = if S[i].1 = j then s else getS S j := by
 have e : (S.set i (S[i].1, s)).map (·.1) = S.map (·.1) := by
  rw [List.map_set]; have : (S[i].1, s).1 = (S.map (·.1))[i]'(by simpa using hi) := by simp
  rw [this, List.set_getElem_self]
 by_cases h : S[i].1 = j
 · subst h; rw [if_pos rfl]; have hi2 : i < (S.set i (S[i].1, s)).length := by simpa using hi
   have := getS_at (S := S.set i (S[i].1, s)) (by rw [e]; exact hn) hi2
   simpa using this
 · rw [if_neg h]; by_cases hx : ∃ k, ∃ hk : k < S.length, S[k].1 = j
   · obtain ⟨k, hk, rfl⟩ := hx; have hki : i ≠ k := fun e2 => by subst e2; exact h rfl
     have hk2 : k < (S.set i (S[i].1, s)).length := by simpa using hk
     have h1 := getS_at (S := S.set i (S[i].1, s)) (by rw [e]; exact hn) hk2; rw [List.getElem_set_ne hki] at h1; rw [h1, getS_at hn hk]
   · have h1 : ∀ x ∈ S, x.1 ≠ j := fun x hx' he => by
      obtain ⟨k, hk, rfl⟩ := List.getElem_of_mem hx'; exact hx ⟨k, hk, he⟩
     rw [getS_no h1]; refine getS_no (fun x hx' he => ?_); rcases List.mem_or_eq_of_mem_set hx' with h2 | rfl
     · exact h1 x h2 he
     · exact h he
theorem getS_put {sz : Nat} {S : List (Nat × Sr)} (hn : (S.map (·.1)).Nodup) (id : Nat) (x : Sm) (j : Nat) : getS (putS sz S id x) j = if id = j then (getS S id).put sz x else getS S j := by
 by_cases hi : ∃ i, ∃ hi : i < S.length, S[i].1 = id
 · obtain ⟨i, hi, rfl⟩ := hi; rw [putS_old hn hi, getS_set hn hi, getS_at hn hi]
 · have h1 : ∀ x ∈ S, x.1 ≠ id := fun x hx' he => by
    obtain ⟨k, hk, rfl⟩ := List.getElem_of_mem hx'; exact hi ⟨k, hk, he⟩
   rw [putS_new h1, getS_new h1, getS_no h1]
theorem getS_upd {S : List (Nat × Sr)} (hn : (S.map (·.1)).Nodup) (id : Nat) (s : Sr) (j : Nat) : getS (updS S id s) j = if id = j then s else getS S j := by
 unfold updS; by_cases hi : ∃ i, ∃ hi : i < S.length, S[i].1 = id
 · obtain ⟨i, hi, rfl⟩ := hi; rw [findIdx_id hn hi]; exact getS_set hn hi s j
 · have h1 : ∀ x ∈ S, x.1 ≠ id := fun x hx' he => by
    obtain ⟨k, hk, rfl⟩ := List.getElem_of_mem hx'; exact hi ⟨k, hk, he⟩
   rw [List.findIdx?_eq_none_iff.2 (fun x hx => by simpa using h1 x hx)]; exact getS_new h1 s j
theorem lay_front {sz : Nat} (hsz : 1 ≤ sz) (ops : List (Nat × Sm)) (n id : Nat) : ∀ d, n + d ≤ ops.length → ∃ j q m, Front (getS (layS sz (ops.take n)) id) (getS (layS sz (ops.take (n + d))) id) j q m
  | 0, _ => ⟨_, _, _, Front.refl _⟩
  | d + 1, h => by
   obtain ⟨j, q, m, hf⟩ := lay_front hsz ops n id d (by omega); have hI := layI hsz ops (n + d) (by omega); have hlt : n + d < ops.length := by omega
   rw [← Nat.add_assoc, layS_take hlt]; unfold stepS; split
   · rw [getS_put hI.ids]; split
     · rename_i he
       rw [he]; obtain ⟨q', hq⟩ := hf.put sz ops[n + d].2; exact ⟨j, q', m, hq⟩
     · exact ⟨j, q, m, hf⟩
   · exact ⟨j, q, m, hf⟩
theorem frs_get {s : Sr} (hok : SrOk s) (id : Nat) {i : Nat} (h : i < (s.frs id (s.cl.length + 1)).length) : ∃ c cl, s.at_ i = Option.some (c, cl) ∧ c ≠ [] ∧ (s.frs id (s.cl.length + 1))[i] = chF id i c cl := by
 have he := frs_all hok id; have hl := congrArg List.length he; rw [List.length_append, List.length_map, List.length_range] at hl; by_cases hi : i < s.cl.length
 · refine ⟨s.cl[i], true, by simp [Sr.at_, hi], (hok.cl _ (List.getElem_mem hi)).1, ?_⟩; rw [List.getElem_of_eq he h, List.getElem_append_left (by simpa using hi)]; simp [hi]
 · have hop : s.op ≠ [] := by intro e; rw [if_pos e] at hl; simp at hl; omega
   rw [if_neg hop] at hl; have hi2 : i = s.cl.length := by simp at hl; omega
   subst hi2; refine ⟨s.op, false, by simp [Sr.at_], hop, ?_⟩; rw [List.getElem_of_eq he h, List.getElem_append_right (by simp)]; simp [hop]
theorem frs_n {s : Sr} (hok : SrOk s) (id : Nat) : (s.frs id (s.cl.length + 1)).length = s.cl.length + (if s.op = [] then 0 else 1) := by
 rw [frs_all hok id, List.length_append, List.length_map, List.length_range]
 congr 1
 split <;> rfl
theorem Front.atq {t s : Sr} {j m : Nat} {q : List Sm} (h : Front t s j q m) : (j < s.cl.length ∧ s.cl[j]? = Option.some q) ∨ (j = s.cl.length ∧ q = s.op) := by
 have h1 := h.at_; have h2 := h.le; unfold Sr.chunks at h1; rcases Nat.lt_or_ge j s.cl.length with hj | hj
 · left
   rw [List.getElem?_append_left hj] at h1; exact ⟨hj, h1⟩
 · right
   have e : j = s.cl.length := by omega
   subst e; rw [List.getElem?_append_right (Nat.le_refl _), Nat.sub_self] at h1; simp at h1; exact ⟨rfl, h1.symm⟩
theorem Front.att {t s : Sr} {j m : Nat} {q : List Sm} (h : Front t s j q m) (k : Nat) : t.at_ k = if k < j then (s.cl[k]?).map (fun c => (c, true)) else if k = j then Option.some (q.take m, false) else none := by
 have h2 := h.le; have hl : t.cl.length = j := by rw [h.eq]; simp; omega
 unfold Sr.at_; by_cases hk : k < j
 · rw [if_pos hk, dif_pos (by omega)]; have : k < s.cl.length := by omega
   rw [List.getElem?_eq_getElem this]; simp only [h.eq, List.getElem_take, Option.map_some]
 · rw [if_neg hk, dif_neg (by omega), hl]; split
   · rw [h.eq]
   · rfl
theorem getS_in {S : List (Nat × Sr)} {id : Nat} (h : getS S id ≠ Sr.zero) : ∃ x ∈ S, x.1 = id := by
 by_cases hx : ∃ x ∈ S, x.1 = id
 · exact hx
 · exact absurd (getS_no (fun x hx' he => hx ⟨x, hx', he⟩)) h
def lakD (s : Sr) (id j m : Nat) (q : List Sm) : Nat := if m < q.length then j else (s.frs id (s.cl.length + 1)).length
theorem front_told {La Lb : List Se} {id j m : Nat} {q : List Sm} (hf : Front (getS (bkOf Lb) id) (getS (bkOf La) id) j q m) (ha : SrOk (getS (bkOf La) id)) {i : Nat} (hi : i < (frsB La id).length) : told (lvs Lb (srtN (Lb.map (·.id)))) (frsB La id)[i] = (decide (i < j) || (decide (i = j) && decide (m = q.length))) := by
 obtain ⟨c, cl, h1, h2, h3⟩ := frs_get ha id hi; have h3' : (frsB La id)[i] = chF id i c cl := h3; rw [h3']; have hchk : ∀ k, k = i → c = ((getS (bkOf La) id).chunks.getD k []) := by
  intro k hk; subst hk; unfold Sr.at_ at h1; unfold Sr.chunks; split at h1
  · rename_i hlt
    simp only [Option.some.injEq, Prod.mk.injEq] at h1; rw [List.getD_eq_getElem?_getD, List.getElem?_append_left hlt, List.getElem?_eq_getElem hlt, ← h1.1]; rfl
  · split at h1
    · rename_i he
      simp only [Option.some.injEq, Prod.mk.injEq] at h1; rw [List.getD_eq_getElem?_getD, List.getElem?_append_right (by omega), he, Nat.sub_self, ← h1.1]; rfl
    · simp at h1
 have hmem : told (lvs Lb (srtN (Lb.map (·.id)))) (chF id i c cl) = true ↔ ∃ c' cl', (getS (bkOf Lb) id).at_ i = Option.some (c', cl') ∧ c' ≠ [] ∧ lfO (chF id i c' cl') = lfO (chF id i c cl) := by
  unfold told; rw [decide_eq_true_iff, lvs_mem]
  constructor
  · rintro ⟨id', _, g, hg, he⟩; obtain ⟨k', c', cl', hk', ha', hc', rfl⟩ := frs_mem hg; have e1 : id' = id := congrArg Lf.s he; have e2 : k' = i := congrArg Lf.c he; subst e1 e2; exact ⟨c', cl', ha', hc', he⟩
  · rintro ⟨c', cl', ha', hc', he⟩; have hne : getS (bkOf Lb) id ≠ Sr.zero := by
     intro e; rw [e] at ha'; unfold Sr.at_ Sr.zero at ha'; simp at ha'; exact hc' ha'.2.1
    obtain ⟨y, hy, hyi⟩ := getS_in hne; obtain ⟨z, hz, rfl⟩ := List.mem_map.1 hy; refine ⟨id, ?_, chF id i c' cl', ?_, he⟩
    · rw [(srtN_perm _).mem_iff]; exact List.mem_map.2 ⟨z, hz, hyi⟩
    · have hi' : i < (getS (bkOf Lb) id).cl.length + 1 := by
       unfold Sr.at_ at ha'; split at ha'
       · omega
       · split at ha'
         · omega
         · simp at ha'
      unfold frsB Sr.frs; rw [List.mem_flatMap]; refine ⟨i, List.mem_range.2 hi', ?_⟩; rw [ha']; simp only; rw [if_neg hc']; simp
 rw [Bool.eq_iff_iff, hmem, hf.att]; have hjle := hf.le; simp only [Bool.or_eq_true, Bool.and_eq_true, decide_eq_true_eq]
 constructor
 · rintro ⟨c', cl', h4, h5, h6⟩; by_cases hk : i < j
   · exact .inl hk
   · rw [if_neg hk] at h4; split at h4
     · rename_i hij
       right
       refine ⟨hij, ?_⟩; simp only [Option.some.injEq, Prod.mk.injEq] at h4; have hn : c'.length = c.length := congrArg Lf.n h6; have hcq : c = q := by
        rw [hchk i rfl, hij, List.getD_eq_getElem?_getD, hf.at_]; rfl
       rw [← h4.1, hcq, List.length_take] at hn; have := hf.mle; omega
     · simp at h4
 · rintro (hk | ⟨hij, hm⟩)
   · refine ⟨c, true, ?_, h2, rfl⟩; have hlt : i < (getS (bkOf La) id).cl.length := by omega
     rw [if_pos hk, List.getElem?_eq_getElem hlt]; have := hchk i rfl; unfold Sr.chunks at this; rw [List.getD_eq_getElem?_getD, List.getElem?_append_left hlt, List.getElem?_eq_getElem hlt] at this; simp only [Option.getD_some] at this; rw [this]; rfl
   · refine ⟨c, false, ?_, h2, rfl⟩; have hcq : c = q := by
      rw [hchk i rfl, hij, List.getD_eq_getElem?_getD, hf.at_]; rfl
     rw [if_neg (by omega), if_pos hij, hm, List.take_length, hcq]
theorem front_lak {La Lb : List Se} {id j m : Nat} {q : List Sm} (hf : Front (getS (bkOf Lb) id) (getS (bkOf La) id) j q m) (ha : SrOk (getS (bkOf La) id)) : lakO La (lvs Lb (srtN (Lb.map (·.id)))) id = (frsB La id).drop (lakD (getS (bkOf La) id) id j m q) := by
 have hn := frs_n ha id; have hjle := hf.le; have hml := hf.mle; unfold lakO lakD; by_cases hm : m < q.length
 · rw [if_pos hm]; have hj : j < (frsB La id).length := by
    show j < ((getS (bkOf La) id).frs id ((getS (bkOf La) id).cl.length + 1)).length
    rw [hn]; rcases hf.atq with ⟨h1, _⟩ | ⟨h1, h2⟩
    · omega
    · have : (getS (bkOf La) id).op ≠ [] := by intro e; rw [h2, e] at hm; simp at hm
      rw [if_neg this]; omega
   refine drop_at _ hj (fun x hx => ?_) ?_
   · obtain ⟨i, hi, rfl⟩ := List.getElem_of_mem hx; simp only [List.length_take] at hi; rw [List.getElem_take, front_told hf ha]; simp; omega
   · rw [front_told hf ha]; simp; omega
 · rw [if_neg hm]; have hmq : m = q.length := by omega
   have hjc : j = (getS (bkOf La) id).cl.length := by
    rcases Nat.lt_or_ge j (getS (bkOf La) id).cl.length with h | h
    · exact absurd (hf.lt h) hm
    · omega
   rw [drop_none _ (fun x hx => ?_)]
   · show [] = (frsB La id).drop (frsB La id).length
     rw [List.drop_length]
   · obtain ⟨i, hi, rfl⟩ := List.getElem_of_mem hx; rw [front_told hf ha]; have h1 : i < (getS (bkOf La) id).cl.length + (if (getS (bkOf La) id).op = [] then 0 else 1) := by rw [← hn]; exact hi
     have h2 : i ≤ j := by
      split at h1 <;> omega
     simp; omega
def stS (s : Sr) (j m : Nat) (q : List Sm) (r : Nat) : Sr := if r = 0 then ⟨s.cl.take j, q.take m⟩ else ⟨s.cl.take (j + r), if j + r ≤ s.cl.length then [] else s.op⟩
theorem st_zero (s : Sr) (j m : Nat) (q : List Sm) : stS s j m q 0 = ⟨s.cl.take j, q.take m⟩ := if_pos rfl
theorem st_end {t s : Sr} {id j m : Nat} {q : List Sm} (hf : Front t s j q m) (hok : SrOk s) : stS s j m q ((s.frs id (s.cl.length + 1)).drop (lakD s id j m q)).length = s := by
 have hn := frs_n hok id; have hjle := hf.le; have hml := hf.mle; rw [List.length_drop]; unfold lakD; by_cases hm : m < q.length
 · rw [if_pos hm, hn]; unfold stS; rcases hf.atq with ⟨h1, _⟩ | ⟨h1, h2⟩
   · by_cases ho : s.op = []
     · rw [if_pos ho, Nat.add_zero, if_neg (by omega), show j + (s.cl.length - j) = s.cl.length by omega, List.take_length, if_pos (Nat.le_refl _), ← ho]
     · rw [if_neg ho, if_neg (by omega), show j + (s.cl.length + 1 - j) = s.cl.length + 1 by omega, List.take_of_length_le (by omega), if_neg (by omega)]
   · have ho : s.op ≠ [] := by intro e; rw [h2, e] at hm; simp at hm
     rw [if_neg ho, if_neg (by omega), show j + (s.cl.length + 1 - j) = s.cl.length + 1 by omega, List.take_of_length_le (by omega), if_neg (by omega)]
 · rw [if_neg hm, Nat.sub_self, st_zero]; have hmq : m = q.length := by omega
   rcases hf.atq with ⟨h1, _⟩ | ⟨h1, h2⟩
   · exact absurd (hf.lt h1) hm
   · rw [h1, List.take_length, hmq, List.take_length, h2]
theorem st_step {t s : Sr} {sz j m r : Nat} {q : List Sm} (hf : Front t s j q m) (hok : SrOk s) (hr : RiseS s) (hfull : (∀ c ∈ s.cl, c.length = sz) ∧ s.op.length < sz) {c : List Sm} {cl : Bool} (ha : s.at_ (j + r) = Option.some (c, cl)) (hc : c ≠ []) (f : Fi) (hfr : f.fr = ⟨j + r, 0, 0⟩) (hct : f.ct = c.length) (hbs : f.bs = pack (bitsC En.zero c)) (hN : f.N = ((bitsC En.zero c).length : Nat)) :
    TakeB (stS s j m q r) sz f 0 c ∧ (stS s j m q r).with_ c cl = stS s j m q (r + 1) := by
  have hjle := hf.le; have hjr : j + r ≤ s.cl.length ∧ ((j + r < s.cl.length ∧ s.cl[j + r]? = Option.some c ∧ cl = true) ∨ (j + r = s.cl.length ∧ c = s.op ∧ cl = false)) := by
   unfold Sr.at_ at ha; split at ha
   · rename_i h
     simp only [Option.some.injEq, Prod.mk.injEq] at ha; exact ⟨by omega, .inl ⟨h, by rw [List.getElem?_eq_getElem h, ha.1], ha.2.symm⟩⟩
   · split at ha
     · rename_i h
       simp only [Option.some.injEq, Prod.mk.injEq] at ha; exact ⟨by omega, .inr ⟨h, ha.1.symm, ha.2.symm⟩⟩
     · simp at ha
  obtain ⟨hle, hcase⟩ := hjr; have hcl : (stS s j m q r).cl = s.cl.take (j + r) := by
   unfold stS; split
   · rename_i h; subst h; simp
   · rfl
  have hcll : (stS s j m q r).cl.length = j + r := by rw [hcl, List.length_take]; omega
  have hck : ChkOk c := by
   rcases hcase with ⟨h1, h2, _⟩ | ⟨_, h2, _⟩
   · rw [List.getElem?_eq_getElem h1] at h2; rw [← Option.some.inj h2]; exact (hok.cl _ (List.getElem_mem h1)).2
   · rw [h2]; exact hok.op
  have hcsz : c.length ≤ sz := by
   rcases hcase with ⟨h1, h2, _⟩ | ⟨_, h2, _⟩
   · rw [List.getElem?_eq_getElem h1] at h2; rw [← Option.some.inj h2, hfull.1 _ (List.getElem_mem h1)]; exact Nat.le_refl _
   · rw [h2]; omega
  have hchk : s.chunks[j + r]? = Option.some c := by
   unfold Sr.chunks; rcases hcase with ⟨h1, h2, _⟩ | ⟨h1, h2, _⟩
   · rw [List.getElem?_append_left h1]; exact h2
   · rw [h1, List.getElem?_append_right (Nat.le_refl _), Nat.sub_self, h2]; rfl
  have hcpos := List.length_pos_iff.2 hc; have hBr : BrCase [] (stS s j m q r) sz f 0 c := by
   refine .inr ⟨bitsC En.zero c, c, 0, hbs, hN, ?_, .inr (.inr ⟨rfl, rfl, rfl, hct.symm, ?_, by omega, ?_⟩)⟩
   · exact runC_of hck.wf (by have := hck.len; omega) hck.good
   · have : f.pn = 0 := congrArg Pl.count hfr; omega
   · intro hs h0; have hk0 : 0 < j + r := by
      rcases Nat.eq_zero_or_pos (j + r) with h | h
      · unfold Sr.some at hs; rw [hcl, h] at hs; simp at hs
      · exact h
     have hkk : j + r - 1 < s.cl.length := by omega
     have h1 : s.chunks[j + r - 1]? = Option.some s.cl[j + r - 1] := by unfold Sr.chunks; rw [List.getElem?_append_left hkk, List.getElem?_eq_getElem hkk]
     have := hr (j + r - 1) _ c h1 (by rw [show j + r - 1 + 1 = j + r by omega]; exact hchk) h0; have h4 : (stS s j m q r).ahead = (knowC En.zero s.cl[j + r - 1]).last := by
      refine last_ahead _ ?_; rw [hcl]; refine getLast_at (k := j + r - 1) ?_ (by rw [List.length_take]; omega); rw [List.getElem?_take_of_lt (by omega), List.getElem?_eq_getElem hkk]
     rw [h4]; exact this
  refine ⟨?_, ?_⟩
  · by_cases he : f.fr = (stS s j m q r).fin
    · refine .inr (.inl ⟨he, ?_⟩); have hop : (stS s j m q r).op = [] := by
       rw [hfr] at he; have := congrArg Pl.count he; simp only [Sr.fin] at this; exact List.eq_nil_of_length_eq_zero this.symm
      rw [hop]; exact hBr
    · exact .inr (.inr ⟨he, by rw [hfr, hcll], hBr⟩)
  · unfold Sr.with_; rcases hcase with ⟨h1, h2, h3⟩ | ⟨h1, h2, h3⟩
    · rw [h3, if_pos rfl, hcl]; unfold stS; rw [if_neg (by omega), ← Nat.add_assoc, if_pos (by omega), List.take_add_one, h2]; rfl
    · rw [h3, if_neg (by simp), hcl]; unfold stS; rw [if_neg (by omega), ← Nat.add_assoc, if_neg (by omega), h1, List.take_length, List.take_of_length_le (by omega), h2]
end
section
open Go.RowKit
theorem filt_flat {α : Type} {sr : α → Nat} {g : Nat → List α} (hg : ∀ u, ∀ x ∈ g u, sr x = u) (u : Nat) : ∀ ks : List Nat, ks.Nodup → (ks.flatMap g).filter (fun x => decide (sr x = u)) = if u ∈ ks then g u else []
  | [], _ => by simp
  | a :: ks, hn => by
   have hn' := List.nodup_cons.1 hn; have ih := filt_flat hg u ks hn'.2; rw [List.flatMap_cons, List.filter_append, ih]; by_cases h : u = a
   · subst h; rw [if_neg hn'.1, if_pos (by simp), List.append_nil]; exact List.filter_eq_self.2 (fun x hx => by simp [hg u x hx])
   · have : (g a).filter (fun x => decide (sr x = u)) = [] := List.filter_eq_nil_iff.2 (fun x hx => by simp only [hg a x hx, decide_eq_true_eq]; exact fun e => h e.symm); rw [this, List.nil_append]; simp [h]
theorem cnt_at {α : Type} (p : α → Bool) (D : List α) {i : Nat} (hi : i < D.length) {x : α} (hx : D[i] = x) (hp : p x = true) : (D.filter p)[((D.take i).filter p).length]? = Option.some x := by
 have h : D.take i ++ x :: D.drop (i + 1) = D := by rw [← hx, ← List.drop_eq_getElem_cons hi, List.take_append_drop]
 have h2 : D.filter p = (D.take i).filter p ++ x :: (D.drop (i + 1)).filter p := by rw [← List.filter_cons_of_pos hp, ← List.filter_append, h]
 rw [h2, List.getElem?_append_right (Nat.le_refl _), Nat.sub_self]; rfl
def rOf (D : List Fr) (i u : Nat) : Nat := ((D.take i).filter (fun f => decide (f.series = u))).length
theorem rOf_zero (D : List Fr) (u : Nat) : rOf D 0 u = 0 := rfl
theorem rOf_step (D : List Fr) {i : Nat} (hi : i < D.length) (u : Nat) : rOf D (i + 1) u = rOf D i u + if D[i].series = u then 1 else 0 := by
 unfold rOf; rw [List.take_succ_eq_append_getElem hi, List.filter_append, List.length_append]
 congr 1
 by_cases h : D[i].series = u <;> simp [h]
structure Mnd (La Lb : List Se) (sz : Nat) (ks : List Nat) (D : List Fr) (j m : Nat → Nat) (q : Nat → List Sm) : Prop where
 fr : ∀ u, Front (getS (bkOf Lb) u) (getS (bkOf La) u) (j u) (q u) (m u)
 ok : ∀ u, SrOk (getS (bkOf La) u)
 rise : ∀ u, RiseS (getS (bkOf La) u)
 full : ∀ u, (∀ c ∈ (getS (bkOf La) u).cl, c.length = sz) ∧ (getS (bkOf La) u).op.length < sz
 hks : ks = srtN (La.map (·.id))
 nd : ks.Nodup
 hD : D = ks.flatMap (lakO La (lvs Lb (srtN (Lb.map (·.id)))))
theorem mnd_of {W1 W2 : World} {base1 base2 b1 b2 mb1 mb2 sz n : Nat} {La Lb : List Se} {ops : List (Nat × Sm)} {rs rt : List Rs} (hsz : 1 ≤ sz) (hn : n ≤ ops.length) (h1 : Laid W1 base1 b1 mb1 sz La (layS sz ops) rs) (h2 : Laid W2 base2 b2 mb2 sz Lb (layS sz (ops.take n)) rt) : ∃ j m q, Mnd La Lb sz (srtN (La.map (·.id))) (lak La (lvs Lb (srtN (Lb.map (·.id)))) (srtN (La.map (·.id)))) j m q := by
 have hf : ∀ u, ∃ j q m, Front (getS (bkOf Lb) u) (getS (bkOf La) u) j q m := fun u => by
  have k := lay_front hsz ops n u (ops.length - n) (by omega); rw [show n + (ops.length - n) = ops.length by omega, List.take_length, ← h1.eq, ← h2.eq] at k; exact k
 refine ⟨fun u => (hf u).choose, fun u => (hf u).choose_spec.choose_spec.choose, fun u => (hf u).choose_spec.choose, fun u => (hf u).choose_spec.choose_spec.choose_spec, fun u => getS_ok h1.bk u, fun u => ?_, fun u => ?_, rfl, ?_, rfl⟩
 · rw [h1.eq]; exact getS_mem (rise_lay ops) RiseS.zero u
 · rw [h1.eq]; exact getS_mem (P := fun s => (∀ c ∈ s.cl, c.length = sz) ∧ s.op.length < sz) h1.I.full (by simp [Sr.zero]; omega) u
 · rw [(srtN_perm _).nodup_iff]; exact h1.bk.ids
def mndG (La : List Se) (D : List Fr) (j m : Nat → Nat) (q : Nat → List Sm) (i u : Nat) : Sr := stS (getS (bkOf La) u) (j u) (m u) (q u) (rOf D i u)
theorem lakO_sr {La : List Se} {l : List Lf} (u : Nat) : ∀ f ∈ lakO La l u, f.series = u := by
 intro f hf; obtain ⟨k, c, cl, _, _, _, rfl⟩ := frs_mem ((List.dropWhile_sublist _).subset hf); rfl
theorem frs_nil {La : List Se} {u : Nat} (h : u ∉ La.map (·.id)) : frsB La u = [] := by
 unfold frsB; rw [getS_no (fun x hx he => h (by obtain ⟨y, hy, rfl⟩ := List.mem_map.1 hx; exact List.mem_map.2 ⟨y, hy, he⟩))]; rfl
theorem Mnd.filt {La Lb : List Se} {sz : Nat} {ks : List Nat} {D : List Fr} {j m : Nat → Nat} {q : Nat → List Sm} (h : Mnd La Lb sz ks D j m q) (u : Nat) : D.filter (fun f => decide (f.series = u)) = (frsB La u).drop (lakD (getS (bkOf La) u) u (j u) (m u) (q u)) := by
 rw [h.hD, filt_flat (fun u => lakO_sr u) u _ h.nd]; split
 · exact front_lak (h.fr u) (h.ok u)
 · rename_i hu
   rw [h.hks, (srtN_perm _).mem_iff] at hu; rw [frs_nil hu, List.drop_nil]
theorem Mnd.zero {La Lb : List Se} {sz : Nat} {ks : List Nat} {D : List Fr} {j m : Nat → Nat} {q : Nat → List Sm} (h : Mnd La Lb sz ks D j m q) (u : Nat) : getS (bkOf Lb) u = mndG La D j m q 0 u := by
 unfold mndG; rw [rOf_zero, st_zero]; exact (h.fr u).eq
theorem Mnd.end_ {La Lb : List Se} {sz : Nat} {ks : List Nat} {D : List Fr} {j m : Nat → Nat} {q : Nat → List Sm} (h : Mnd La Lb sz ks D j m q) (u : Nat) : mndG La D j m q D.length u = getS (bkOf La) u := by
 unfold mndG rOf; rw [List.take_length, h.filt u]; exact st_end (h.fr u) (h.ok u)
structure MndX (La : List Se) (sz : Nat) (ks : List Nat) (D : List Fr) (j m : Nat → Nat) (q : Nat → List Sm) (i : Nat) (x : Fr) (u k : Nat) (c : List Sm) (cl : Bool) : Prop where
 hu : u ∈ ks
 hx : x = chF u k c cl
 hk : k ≤ (getS (bkOf La) u).cl.length
 okk : cl = true ∨ c.length < sz
 c24 : c.length ≤ 24
 len : (bitsC En.zero c).length ≤ 3504
 take : ∀ f : Fi, f.fr = ⟨k, 0, 0⟩ → f.ct = c.length → f.bs = pack (bitsC En.zero c) → f.N = ((bitsC En.zero c).length : Nat) → TakeB (mndG La D j m q i u) sz f 0 c
 st : ∀ v, mndG La D j m q (i + 1) v = if u = v then (mndG La D j m q i u).with_ c cl else mndG La D j m q i v
 hcl : (mndG La D j m q i u).cl.length ≤ (getS (bkOf La) u).cl.length
theorem Mnd.step {La Lb : List Se} {sz : Nat} {ks : List Nat} {D : List Fr} {j m : Nat → Nat} {q : Nat → List Sm} (h : Mnd La Lb sz ks D j m q) {i : Nat} (hi : i < D.length) {x : Fr} (hx : D[i] = x) : ∃ u k c cl, MndX La sz ks D j m q i x u k c cl := by
 have hm : x ∈ D := by rw [← hx]; exact List.getElem_mem hi
 have hm2 := hm; rw [h.hD] at hm2; obtain ⟨u, hu, hxu⟩ := List.mem_flatMap.1 hm2; have hs := lakO_sr u x hxu; have hat := cnt_at (fun f : Fr => decide (f.series = u)) D hi hx (by simp [hs]); rw [h.filt u, List.getElem?_drop] at hat; have hr : ((D.take i).filter (fun f => decide (f.series = u))).length = rOf D i u := rfl; rw [hr] at hat; have hlt : m u < (q u).length := by
  by_cases hlt : m u < (q u).length
  · exact hlt
  · unfold lakD at hat; rw [if_neg hlt] at hat; have hl : (frsB La u).length = ((getS (bkOf La) u).frs u ((getS (bkOf La) u).cl.length + 1)).length := rfl; rw [List.getElem?_eq_none (by omega)] at hat; cases hat
 unfold lakD at hat; rw [if_pos hlt] at hat; obtain ⟨hi2, hat⟩ := List.getElem?_eq_some_iff.1 hat; obtain ⟨c, cl, h1, h2, h3⟩ := frs_get (h.ok u) u hi2; have hx2 : x = chF u (j u + rOf D i u) c cl := hat.symm.trans h3; have hf := h.full u; have hst := fun (f : Fi) (h4 : f.fr = ⟨j u + rOf D i u, 0, 0⟩) (h5 : f.ct = c.length) (h6 : f.bs = pack (bitsC En.zero c)) (h7 : f.N = ((bitsC En.zero c).length : Nat)) => st_step (h.fr u) (h.ok u) (h.rise u) hf h1 h2 f h4 h5 h6 h7; have hsd := (hst ⟨0, 0, 0, j u + rOf D i u, 0, 0, c.length, false, 0, none, 0, _, _⟩ rfl rfl rfl rfl).2; have hcs : c.length ≤ 24 ∧ (cl = true ∨ c.length < sz) ∧ j u + rOf D i u ≤ (getS (bkOf La) u).cl.length := by
  unfold Sr.at_ at h1; split at h1
  · rename_i hl
    simp only [Option.some.injEq, Prod.mk.injEq] at h1; rw [← h1.1]; exact ⟨((h.ok u).cl _ (List.getElem_mem hl)).2.len, .inl h1.2.symm, by omega⟩
  · split at h1
    · rename_i hl
      simp only [Option.some.injEq, Prod.mk.injEq] at h1; rw [← h1.1]; exact ⟨(h.ok u).op.len, .inr hf.2, by omega⟩
    · simp at h1
 have hbt : (bitsC En.zero c).length ≤ 3504 := by
  have := frs_bits (h.ok u) u _ x (by rw [← hat]; exact List.getElem_mem hi2); rw [hx2] at this; exact this
 refine ⟨u, j u + rOf D i u, c, cl, hu, hx2, hcs.2.2, hcs.2.1, hcs.1, hbt, fun f h4 h5 h6 h7 => (hst f h4 h5 h6 h7).1, fun v => ?_, ?_⟩
 · by_cases huv : u = v
   · subst huv; rw [if_pos rfl]; unfold mndG; rw [rOf_step D hi, hx, if_pos hs, ← hsd]
   · rw [if_neg huv]; unfold mndG; rw [rOf_step D hi, hx, if_neg (by rw [hs]; exact huv), Nat.add_zero]
 · unfold mndG stS; split
   · simp; omega
   · simp; omega
structure MndB (W1 w8 : World) (base bF b2 mb2 sz : Nat) (ks : List Nat) (G : Nat → Sr) (L' : List Se) (w : World) : Prop where
 bk : BkAt base w b2 64 sz mb2 L'
 ov : ∃ e, w = over W1 e
 ids : ∀ x ∈ L', x.id ∈ ks
 get : ∀ u, getS (bkOf L') u = G u
 sep : ∀ k ∈ bkB b2 mb2 L', k < bF ∨ w8.heap.size ≤ k
 keep : ∀ i, bF ≤ i → i < w8.heap.size → w.heap[i]? = w8.heap[i]?
 hz : w8.heap.size ≤ w.heap.size
theorem MndB.cg {W1 w8 w w' : World} {base bF b2 mb2 sz : Nat} {ks : List Nat} {G : Nat → Sr} {L' : List Se} (h : MndB W1 w8 base bF b2 mb2 sz ks G L' w) (hW : ∃ e, w' = over w e) : MndB W1 w8 base bF b2 mb2 sz ks G L' w' := by
 have h1 : Chg [] w w' := Chg.of_ov hW _; have hz := h.hz; exact ⟨bk_ov h.bk hW, ov_tr h.ov hW, h.ids, h.get, h.sep, fun i hi hi2 => by rw [h1.block i (by omega) (by simp)]; exact h.keep i hi hi2, by have := h1.size; omega⟩
theorem MndB.len {W1 w8 w : World} {base bF b2 mb2 sz : Nat} {ks : List Nat} {G : Nat → Sr} {L' : List Se} (h : MndB W1 w8 base bF b2 mb2 sz ks G L' w) : L'.length ≤ ks.length := by
 have := nodup_le (L'.map (·.id)) ks h.bk.ids (fun i hi => by obtain ⟨x, hx, rfl⟩ := List.mem_map.1 hi; exact h.ids x hx)
 simpa using this
theorem mnd_take {W1 w8 w0 w : World} {base bF b2 mb2 sz : Nat} {ks : List Nat} {G : Nat → Sr} {L' : List Se} (h0 : MndB W1 w8 base bF b2 mb2 sz ks G L' w0) (hW : ∃ e, w = over w0 e) (hT : TabW w) (hb : W1.heap.size ≤ base) (hkl : ks.length ≤ 60) (hsz : 1 ≤ sz ∧ sz ≤ 24) (f : Fi) (hf : FiOk w f) (hcl : (G f.id).cl.length ≤ 900) {cs : List Sm} (hc : TakeB (G f.id) sz f 0 cs) (hokk : f.cl = true ∨ cs.length < sz) (hid : f.id ∈ ks) (G' : Nat → Sr) (hG : ∀ v, G' v = if f.id = v then (G f.id).with_ cs f.cl else G v) :
    Calls Tryz.prog 19 #[.pointer (some ⟨b2, 0, none⟩), f.v] w (fun en w' => en = .returned (.int .u16 0) ∧ ∃ L'', MndB W1 w8 base bF b2 mb2 sz ks G' L'' w') := by
  have h := h0.cg hW; have hlen := h.len; have hsize : base ≤ w.heap.size := Nat.le_of_lt (by have h1 := h.bk.blt b2 (by simp [bkB]); omega); have hs := h.get f.id; have K := take_any h.bk hsize hT (by omega) (by omega) hsz f hf hs hcl hc; refine K.mono ?_; intro en w' hp; unfold TakePost at hp; rw [if_pos rfl] at hp; obtain ⟨h1, _, h3⟩ := hp; obtain ⟨_, L'', h4, h5, h6, h7, h8⟩ := h3 hokk; have hn := bkB_new h.bk h7 h8; have hz := h.hz; refine ⟨h1, L'', h5, ?_, ?_, ?_, ?_, ?_, ?_⟩
  · exact Chg.ov h.ov h4 (fun i hi => by have := (h.bk.blt _ (bkF_B hi)).1; omega)
  · intro x hx; have hm : (x.id, x.s) ∈ bkOf L'' := List.mem_map.2 ⟨x, hx, rfl⟩; rw [h6] at hm; rcases updS_mem _ hm with h9 | h9
    · have e : x.id = f.id := h9; rw [e]; exact hid
    · obtain ⟨y, hy, he⟩ := List.mem_map.1 h9; have e : y.id = x.id := congrArg Prod.fst he; rw [← e]; exact h.ids y hy
  · intro u; rw [h6, getS_upd (bk_nodup h.bk), hG u]; split
    · rfl
    · exact h.get u
  · intro k hk; rcases hn k hk with h9 | h9
    · exact h.sep k h9
    · right; omega
  · intro i hi hi2; have hni : i ∉ bkF mb2 L' := fun hm => by have := h.sep i (bkF_B hm); omega
    rw [h4.block i (by omega) hni]; exact h.keep i hi hi2
  · have := h4.size; omega
theorem lak_len (L : List Se) (l : List Lf) (ids : List Nat) : (lak L l ids).length ≤ (lvs L ids).length := by
 unfold lak lvs; rw [List.length_flatMap, List.length_flatMap]
 induction ids with
 | nil => simp
 | cons i ids ih =>
  simp only [List.map_cons, List.sum_cons] at ih ⊢; have : (lakO L l i).length ≤ (lvO L i).length := by
   unfold lakO lvO; rw [List.length_map]; exact (List.dropWhile_sublist _).length_le
  omega
theorem mnd_ids {La Lb : List Se} {sz : Nat} {ks : List Nat} {D : List Fr} {j m : Nat → Nat} {q : Nat → List Sm} (h : Mnd La Lb sz ks D j m q) {u : Nat} (hu : u ∉ La.map (·.id)) : frsB Lb u = [] := by
 have h1 := (h.fr u).eq; have hq := (h.fr u).atq; have hz : getS (bkOf La) u = Sr.zero := getS_no (fun x hx he => hu (by obtain ⟨y, hy, rfl⟩ := List.mem_map.1 hx; exact List.mem_map.2 ⟨y, hy, he⟩)); rw [hz] at h1 hq; have hq2 : q u = [] := by
  rcases hq with ⟨h2, _⟩ | ⟨_, h2⟩
  · simp [Sr.zero] at h2
  · rw [h2]; rfl
 unfold frsB; rw [h1, hq2]; simp [Sr.zero, Sr.frs, Sr.at_]
theorem mnd_lvs {La Lb L' : List Se} {sz : Nat} {ks : List Nat} {D : List Fr} {j m : Nat → Nat} {q : Nat → List Sm} {W1 w8 w W : World} {base bF b2 mb2 base1 b1 mb1 : Nat} {ops : List (Nat × Sm)} {rs : List Rs} (hM : Mnd La Lb sz ks D j m q) (hL : Laid W base1 b1 mb1 sz La (layS sz ops) rs) (h : MndB W1 w8 base bF b2 mb2 sz ks (mndG La D j m q D.length) L' w) : (∀ u, getS (bkOf L') u = getS (bkOf La) u) ∧ srtN (L'.map (·.id)) = ks ∧ lvs L' (srtN (L'.map (·.id))) = lvs La (srtN (La.map (·.id))) := by
 have hg : ∀ u, getS (bkOf L') u = getS (bkOf La) u := fun u => by rw [h.get u, hM.end_ u]
 have hfr : ∀ u, frsB L' u = frsB La u := fun u => by unfold frsB; rw [hg u]
 have hks : srtN (L'.map (·.id)) = ks := by
  rw [hM.hks]; refine sort_uniq ?_ (ks_up hL) (fun s => ?_)
  · have h1 := srtN_sorted (L'.map (·.id)); have h2 : (srtN (L'.map (·.id))).Nodup := by rw [(srtN_perm _).nodup_iff]; exact h.bk.ids
    rw [List.nodup_iff_pairwise_ne] at h2; exact List.Pairwise.imp₂ (fun _ _ h1 h2 => by omega) h1 h2
  · rw [(srtN_perm _).mem_iff, (srtN_perm _).mem_iff]
    constructor
    · intro hs; obtain ⟨x, hx, rfl⟩ := List.mem_map.1 hs; have := h.ids x hx; rw [hM.hks, (srtN_perm _).mem_iff] at this; exact this
    · intro hs; have hne := frsB_ne hL hs; rw [← hfr s] at hne; by_cases hx : s ∈ L'.map (·.id)
      · exact hx
      · exact absurd (frs_nil hx) hne
 refine ⟨hg, hks, ?_⟩; rw [hks, hM.hks]; unfold lvs lvO
 congr 1
 funext u
 rw [hfr u]
end
end Go.Proofs.YtnffcckhdedhpaaGreatDoor
