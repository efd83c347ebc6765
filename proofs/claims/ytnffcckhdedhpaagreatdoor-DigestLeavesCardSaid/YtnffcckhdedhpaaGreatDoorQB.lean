import Derived.Test.YtnffcckhdedhpaaGreatDoorPA
import Derived.Test.YtnffcckhdedhpaaGreatDoorPB
import Derived.Test.YtnffcckhdedhpaaGreatDoorGA
import Derived.Test.YtnffcckhdedhpaaGreatDoorPC
import Derived.Test.YtnffcckhdedhpaaGreatDoorHE
import Derived.Deep.CutRange
namespace Go.Proofs.YtnffcckhdedhpaaGreatDoor
set_option linter.unusedVariables false
set_option linter.unusedSimpArgs false
set_option maxRecDepth 100000
set_option maxHeartbeats 16000000
section
open Go.RowKit
structure ApO (a b l O : List Lf) : Prop where
 up : O.Pairwise (fun x y => x.s < y.s)
 is_ : ∀ x ∈ O, minU a b l x.s = some x.c ∧ x.n = cntU a x.s x.c ∧ x.m = 0
 all : ∀ s, minU a b l s ≠ none → ∃ x ∈ O, x.s = s
theorem ApO.nil (a b : List Lf) : ApO a b [] [] := ⟨List.Pairwise.nil, by simp, fun s h => absurd rfl h⟩
theorem ApO.skip {a b l O : List Lf} {x : Lf} (h : ApO a b l O) (hu : un a b x.s x.c = false) : ApO a b (l ++ [x]) O := by
 have e : ∀ s, minU a b (l ++ [x]) s = minU a b l s := fun s => by
  rw [minU_snoc]; have : hit a b x s = false := by unfold hit; rw [hu]; simp
  rw [this]; rfl
 exact ⟨h.up, fun y hy => by rw [e]; exact h.is_ y hy, fun s hs => h.all s (by rw [← e]; exact hs)⟩
theorem minU_other {a b l : List Lf} {x : Lf} {s : Nat} (hs : x.s ≠ s) : minU a b (l ++ [x]) s = minU a b l s := by
 rw [minU_snoc]; have : hit a b x s = false := by unfold hit; simp [hs]
 rw [this]; rfl
theorem minU_this {a b l : List Lf} {x : Lf} (hu : un a b x.s x.c = true) : minU a b (l ++ [x]) x.s = updM (minU a b l x.s) x.c := by
 rw [minU_snoc]; have : hit a b x x.s = true := hit_iff.2 ⟨rfl, hu⟩; rw [this]; rfl
structure AtP (O : List Lf) (s k : Nat) : Prop where
 le : k ≤ O.length
 lo : ∀ i, (h : i < k) → (O[i]'(by omega)).s < s
 hi : ∀ h : k < O.length, s ≤ O[k].s
theorem ApO.stay {a b l O : List Lf} {x : Lf} (h : ApO a b l O) (hu : un a b x.s x.c = true) {k : Nat} (hk : k < O.length) (he : O[k].s = x.s) (hc : ¬ x.c < O[k].c) : ApO a b (l ++ [x]) O := by
 have hm := (h.is_ _ (List.getElem_mem hk)).1; rw [he] at hm; refine ⟨h.up, fun y hy => ?_, fun s hs => ?_⟩
 · by_cases e : x.s = y.s
   · obtain ⟨h1, h2, h3⟩ := h.is_ y hy; refine ⟨?_, h2, h3⟩; rw [← e] at h1; have h4 : y.c = O[k].c := by rw [hm] at h1; exact (Option.some.inj h1).symm
     rw [← e, minU_this hu, h1]; unfold updM; simp only []; rw [if_neg (by omega)]
   · rw [minU_other e]; exact h.is_ y hy
 · by_cases e : x.s = s
   · exact ⟨O[k], List.getElem_mem hk, by rw [he, e]⟩
   · rw [minU_other e] at hs; exact h.all s hs
theorem ApO.set_ {a b l O : List Lf} {x : Lf} (h : ApO a b l O) (hu : un a b x.s x.c = true) {k : Nat} (hk : k < O.length) (he : O[k].s = x.s) (hc : x.c < O[k].c) : ApO a b (l ++ [x]) (O.set k ⟨x.s, x.c, cntU a x.s x.c, 0⟩) := by
 have hm := (h.is_ _ (List.getElem_mem hk)).1; rw [he] at hm; have hup := List.pairwise_iff_getElem.1 h.up; refine ⟨?_, fun y hy => ?_, fun s hs => ?_⟩
 · have e : (O.set k ⟨x.s, x.c, cntU a x.s x.c, 0⟩).map (·.s) = O.map (·.s) := by
    rw [List.map_set]; have : (⟨x.s, x.c, cntU a x.s x.c, 0⟩ : Lf).s = (O.map (·.s))[k]'(by simpa using hk) := by simp [he]
    rw [this, List.set_getElem_self]
   have h1 : (O.map (·.s)).Pairwise (· < ·) := List.pairwise_map.2 h.up; rw [← e] at h1; exact List.pairwise_map.1 h1
 · rw [List.mem_iff_getElem] at hy; obtain ⟨i, hi, rfl⟩ := hy; rw [List.getElem_set]; split
   · exact ⟨by simp only []; rw [minU_this hu, hm]; unfold updM; simp only []; rw [if_pos hc], rfl, rfl⟩
   · rename_i hik
     have hi2 : i < O.length := by simpa using hi
     have hne : x.s ≠ O[i].s := by
      rw [← he]; rcases Nat.lt_or_ge i k with h1 | h1
      · have := hup i k hi2 hk h1; omega
      · have := hup k i hk hi2 (by omega); omega
     rw [minU_other hne]; exact h.is_ _ (List.getElem_mem hi2)
 · by_cases e : x.s = s
   · exact ⟨⟨x.s, x.c, cntU a x.s x.c, 0⟩, List.mem_set hk _, e⟩
   · rw [minU_other e] at hs; obtain ⟨y, hy, h1⟩ := h.all s hs; obtain ⟨i, hi, rfl⟩ := List.getElem_of_mem hy; have hik : k ≠ i := fun e2 => by subst e2; rw [he] at h1; exact e h1
     exact ⟨O[i], List.mem_iff_getElem.2 ⟨i, by simpa using hi, by rw [List.getElem_set, if_neg hik]⟩, h1⟩
theorem ApO.ins {a b l O : List Lf} {x : Lf} (h : ApO a b l O) (hu : un a b x.s x.c = true) {k : Nat} (hk : AtP O x.s k) (hn : ∀ h : k < O.length, O[k].s ≠ x.s) : ApO a b (l ++ [x]) (O.take k ++ [⟨x.s, x.c, cntU a x.s x.c, 0⟩] ++ O.drop k) := by
 have hup := List.pairwise_iff_getElem.1 h.up; have hno : ∀ y ∈ O, y.s ≠ x.s := by
  intro y hy he; obtain ⟨i, hi, rfl⟩ := List.getElem_of_mem hy; rcases Nat.lt_or_ge i k with h1 | h1
  · have := hk.lo i h1; omega
  · have hkl : k < O.length := by omega
    have h2 := hk.hi hkl; have h3 := hn hkl; rcases Nat.eq_or_lt_of_le h1 with h4 | h4
    · subst h4; exact h3 he
    · have := hup k i hkl hi h4; omega
 have hm : minU a b l x.s = none := by
  cases hq : minU a b l x.s with
  | none => rfl
  | some d =>
   obtain ⟨y, hy, he⟩ := h.all x.s (by rw [hq]; simp); exact absurd he (hno y hy)
 have hmem : ∀ y, y ∈ O.take k ++ [⟨x.s, x.c, cntU a x.s x.c, 0⟩] ++ O.drop k ↔ y = ⟨x.s, x.c, cntU a x.s x.c, 0⟩ ∨ y ∈ O := by
  intro y
  conv => rhs; rw [← List.take_append_drop k O]
  simp only [List.mem_append, List.mem_singleton]
  constructor
  · rintro ((h1 | h1) | h1)
    · exact .inr (.inl h1)
    · exact .inl h1
    · exact .inr (.inr h1)
  · rintro (h1 | h1 | h1)
    · exact .inl (.inr h1)
    · exact .inl (.inl h1)
    · exact .inr h1
 refine ⟨?_, fun y hy => ?_, fun s hs => ?_⟩
 · refine List.pairwise_append.2 ⟨List.pairwise_append.2 ⟨h.up.take, by simp, fun y hy z hz => ?_⟩, h.up.drop, fun y hy z hz => ?_⟩
   · rw [List.mem_singleton] at hz; subst hz; obtain ⟨i, hi, rfl⟩ := List.mem_take_iff_getElem.1 hy; exact hk.lo i (by omega)
   · obtain ⟨j, hj, rfl⟩ := List.mem_drop_iff_getElem.1 hz; have hkl : k < O.length := by omega
     have hg : x.s < O[k + j].s := by
      have h2 := hk.hi hkl; have h3 := hn hkl; rcases Nat.eq_zero_or_pos j with h4 | h4
      · subst h4; simp only [Nat.add_zero]; omega
      · have := hup k (k + j) hkl (by omega) (by omega); omega
     rcases List.mem_append.1 hy with h1 | h1
     · obtain ⟨i, hi, rfl⟩ := List.mem_take_iff_getElem.1 h1; have := hk.lo i (by omega); show O[i].s < _
       omega
     · rw [List.mem_singleton] at h1; subst h1; exact hg
 · rcases (hmem y).1 hy with rfl | h1
   · exact ⟨by simp only []; rw [minU_this hu, hm]; rfl, rfl, rfl⟩
   · rw [minU_other (fun e => hno y h1 e.symm)]; exact h.is_ y h1
 · by_cases e : x.s = s
   · exact ⟨_, (hmem _).2 (.inl rfl), e⟩
   · rw [minU_other e] at hs; obtain ⟨y, hy, h1⟩ := h.all s hs; exact ⟨y, (hmem y).2 (.inr hy), h1⟩
theorem ApO.len {a b l O : List Lf} (h : ApO a b l O) : O.length ≤ l.length := by
 have hnd : (O.map (·.s)).Nodup := by
  rw [List.nodup_iff_pairwise_ne, List.pairwise_map]; exact h.up.imp (fun h => by omega)
 have hsub : ∀ s ∈ O.map (·.s), s ∈ l.map (·.s) := by
  intro s hs; obtain ⟨x, hx, rfl⟩ := List.mem_map.1 hs; obtain ⟨⟨y, hy, h1, _⟩, _⟩ := minU_some _ _ _ _ _ (h.is_ x hx).1; exact List.mem_map.2 ⟨y, hy, (hit_iff.1 h1).1⟩
 have key : ∀ (l m : List Nat), l.Nodup → (∀ i ∈ l, i ∈ m) → l.length ≤ m.length := by
  intro l
  induction l with
  | nil => intro m _ _; exact Nat.zero_le _
  | cons a l ih =>
   intro m hn h; have ha : a ∈ m := h a (by simp); have hn' := List.nodup_cons.1 hn; have ih := ih (m.erase a) hn'.2 (fun i hi => (List.mem_erase_of_ne (by rintro rfl; exact hn'.1 hi)).2 (h i (by simp [hi]))); rw [List.length_erase_of_mem ha] at ih; have : 0 < m.length := List.length_pos_of_mem ha; simp; omega
 have := key _ _ hnd hsub
 simpa using this
theorem ApO.eq {a b O : List Lf} (h : ApO a b (a ++ b) O) : O = apL a b := by
 have h1 : O.map (·.s) = idsU a b := by
  refine sort_uniq (List.pairwise_map.2 h.up) (idsU_sort a b) (fun s => ?_); rw [idsU_mem]
  constructor
  · intro hs; obtain ⟨x, hx, rfl⟩ := List.mem_map.1 hs; rw [(h.is_ x hx).1]; rfl
  · intro hs; obtain ⟨x, hx, he⟩ := h.all s (by intro e; rw [e] at hs; simp at hs); exact List.mem_map.2 ⟨x, hx, he⟩
 unfold apL; rw [← h1, List.map_map]
 symm
 conv => rhs; rw [← List.map_id O]
 refine List.map_congr_left (fun x hx => ?_); obtain ⟨h2, h3, h4⟩ := h.is_ x hx; obtain ⟨xs, xc, xn, xm⟩ := x; simp only at h2 h3 h4; simp only [Function.comp, h2, Option.getD_some, id]; rw [h3, h4]
end
section
open Go.RowKit
attribute [local go_sem] odr cdr
def fndV (l : List Lf) (s c : Nat) : Value := match fnd l s c with
 | some p => .tuple #[p.v, .bool true]
 | none => .tuple #[zLf, .bool false]
theorem fnd_take {l : List Lf} {s c k : Nat} (hn : fnd (l.take k) s c = none) (hk : k < l.length) (he : l[k].s = s ∧ l[k].c = c) : fnd l s c = some l[k] := by
 have h2 : fnd (l.take (k + 1)) s c = some l[k] := by
  rw [List.take_succ_eq_append_getElem hk, fnd_snoc, hn, if_pos he]; rfl
 unfold fnd at h2 ⊢; have h : l.find? (fun x => x.s == s && x.c == c) = (l.take (k + 1) ++ l.drop (k + 1)).find? (fun x => x.s == s && x.c == c) := by rw [List.take_append_drop]
 rw [h, List.find?_append, h2]; rfl
theorem rfndL_any (l : List Lf) (hl : l.length ≤ 100000) (s c : Nat) (a : Option Addr) (cap : Nat) (w : World) (h1 : SlL w a cap l) :
    Calls Tryz.prog 45 #[.slice a l.length cap, .int .u32 (s : Nat), .int .u32 (c : Nat)] w (Ret w (fndV l s c)) := by
  have HR : Hid (∀ r, fnd l s c = r → fndV l s c = match r with | some p => .tuple #[p.v, .bool true] | none => .tuple #[zLf, .bool false]) := hid (fun r h => by unfold fndV; rw [h]); obtain ⟨r, hr0⟩ : ∃ r, fndV l s c = r := ⟨_, rfl⟩; rw [hr0] at HR ⊢; clear hr0
  go_enter Tryz.func45, Tryz.ntmps45; go_wp2
  go_loopw [8] (fun i wr => ∃ k : Nat, k ≤ l.length ∧ i = .int .i64 (k : Nat) ∧ fnd (l.take k) s c = none ∧ Ov (w.alloc (.cells #[.int .u32 0, .int .u32 0, .int .u32 0, .int .u64 0] 65)) wr) (fun i _ => l.length - (intOf i).toNat)
  case atStart => exact ⟨0, Nat.zero_le _, rfl, rfl, ovA⟩
  case round =>
   obtain ⟨k, hk, rfl, hn, ⟨e0, rfl⟩⟩ := hrel; by_cases hlt : k < l.length
   · obtain ⟨ub, uo, rfl, hub, u0, u1, u2, u3⟩ := SlL.at_ h1 hlt; have htk := List.take_succ_eq_append_getElem hlt; have hft := fnd_take (s := s) (c := c) hn hlt; obtain ⟨⟨x1, x2, x3, x4⟩, hx⟩ : ∃ x, l[k]'hlt = x := ⟨_, rfl⟩; rw [hx] at u0 u1 u2 u3 htk hft; simp only at u0 u1 u2 u3 hft; have hd : decide (k < l.length) = true := decide_eq_true hlt; by_cases hs : x1 = s
     · by_cases hc : x2 = c
       · have hr := HR.out _ (hft ⟨hs, hc⟩); subst hs hc; subst hr; simp only [Lf.v]; clear HR; clear hft hx h1 htk hn; go_wp2
         (try simp only [Exit.inBlock, Exit.then])
         refine bodyPost_ret (v := ?rv105) ?rh105 rfl ?rp105
         case rh105 => (simp only [results, show Tryz.f45.results = #[.cell 6 65, .tmp 7] from rfl]; go_simp; rfl)
         exact ⟨ovA, rfl⟩
       · have HN : Hid (fnd (l.take (k + 1)) s c = none) := hid (by rw [htk, fnd_snoc, hn, if_neg (fun h => hc h.2)]; rfl); have hcb : ((x2 : Int) == (c : Int)) = false := by simp; omega
         subst hs; clear hft hx h1 htk hn; go_wp2; go_roundw
         case rel => exact ⟨k + 1, by omega, by go_num, HN.out, ovA⟩
         case measure => (simp [intOf]; try omega)
     · have HN : Hid (fnd (l.take (k + 1)) s c = none) := hid (by rw [htk, fnd_snoc, hn, if_neg (fun h => hs h.1)]; rfl); have hsb : ((x1 : Int) == (s : Int)) = false := by simp; omega
       clear hft hx h1 htk hn; go_wp2; go_roundw
       case rel => exact ⟨k + 1, by omega, by go_num, HN.out, ovA⟩
       case measure => (simp [intOf]; try omega)
   · obtain rfl : k = l.length := by omega
     rw [List.take_length] at hn; have hr := HR.out _ hn; subst hr; clear HR; clear h1 hn; go_wp2
     (try simp only [Exit.inBlock, Exit.then])
     refine bodyPost_ret (v := ?rv106) ?rh106 rfl ?rp106
     case rh106 => (simp only [results, show Tryz.f45.results = #[.cell 6 65, .tmp 7] from rfl]; go_simp; rfl)
     exact ⟨ovA, rfl⟩
end
section
open Go.RowKit
attribute [local go_sem] odr cdr
attribute [local go_sem high] leaf_eqlN
def lfZ (o : Option Lf) : Lf := o.getD ⟨0, 0, 0, 0⟩
theorem fndV_eq (l : List Lf) (s c : Nat) : fndV l s c = .tuple #[(lfZ (fnd l s c)).v, .bool (fnd l s c).isSome] := by
 unfold fndV lfZ; cases fnd l s c <;> rfl
theorem un_eq (a b : List Lf) (s c : Nat) : un a b s c = !((fnd a s c).isSome && (fnd b s c).isSome && lfEq (lfZ (fnd a s c)) (lfZ (fnd b s c))) := by
 unfold un lfZ lfEq; cases fnd a s c <;> cases fnd b s c <;> simp
 rename_i p q
 rw [Bool.eq_iff_iff]; simp
theorem cnt_eq (a : List Lf) (s c : Nat) : (lfZ (fnd a s c)).n = cntU a s c := by
 unfold cntU lfZ; cases fnd a s c <;> rfl
structure FndB (W W' : World) (q : Nat) (p : Lf) : Prop where
 ov : ∃ e, W' = over W e
 blk : Blk W' q [.int .u32 (p.s : Nat), .int .u32 (p.c : Nat), .int .u32 (p.n : Nat), .int .u64 (p.m : Nat)] 65
 lo : W.heap.size ≤ q
theorem rapart_any (a b : List Lf) (ha : a.length ≤ 1000) (hb : b.length ≤ 1000) (a1 a2 : Option Addr) (c1 c2 : Nat) (w : World) (s1 : SlL w a1 c1 a) (s2 : SlL w a2 c2 b) :
    Calls Tryz.prog 18 #[.slice a1 a.length c1, .slice a2 b.length c2] w (LfsPost w (apL a b)) := by
  have HX1 := hid (fun (s c : Nat) (W : World) (h : ∃ e, W = over w e) => rfndL_any a (by omega) s c a1 c1 W (Sl.ov s1 h)); have HX2 := hid (fun (s c : Nat) (W : World) (h : ∃ e, W = over w e) => rfndL_any b (by omega) s c a2 c2 W (Sl.ov s2 h)); simp only [fndV_eq] at HX1 HX2; have HS1 := hid s1; have HS2 := hid s2; obtain ⟨N, hN⟩ : ∃ N, (a ++ b).length = N := ⟨_, rfl⟩; have HN := hid hN; have HNS : Hid (N = a.length + b.length) := hid (by rw [← hN]; exact List.length_append); have hNl : N ≤ 2000 := by have := HNS.out; omega
  clear s1 s2 hN
  go_enter Tryz.func18, Tryz.ntmps18
  go_wp2_with (first
    | (at_builtin
       refine gen_w ?_; intro W1 hW1; have O1 : Hid (∃ e, W1 = over w e) := hid (by rw [hW1]; exact ovA); refine wpList_append' leaf_elem Lf.cs_len Lf.cs_one rfl (.tmp 15) (.tmp 16) rfl (base := w.heap.size) (v := .slice none 0 0) (ys := []) (xs := a) (Own.nil _) rfl rfl (by obtain ⟨e, he⟩ := O1.out; rw [he]; simp) (Sl.ov HS1.out O1.out) (by simp only [List.length_nil]; unfold maxLen; omega) (by simp only [List.length_nil]; omega) ?_; intro v2 m2 ho2 _; refine gen_w ?_; intro W2 hW2; have C2 : Chg [] W1 W2 := by rw [hW2]; exact chg_chg _ _ _
       rw [← hW2, List.nil_append] at ho2; have O2 : Hid (∃ e, W2 = over w e) := hid (Chg.ov O1.out C2 (by simp)); obtain ⟨a2', c2', rfl, _⟩ := Own.slice Lf.cs_len ho2; have H2 := hid ho2; clear ho2 hW1 hW2 C2 O1)
    | (at_builtin
       refine gen_w ?_; intro W3 hW3; have O3 : Hid (∃ e, W3 = over W2 e) := hid (by rw [hW3]; exact ovA); have H3 : Hid (OwnLf w.heap.size W3 (.slice a2' a.length c2') a) := hid (by obtain ⟨e, he⟩ := O3.out; rw [he]; exact H2.out.over e); have hz3 : w.heap.size ≤ W3.heap.size := by obtain ⟨e, he⟩ := ov_tr O2.out O3.out; rw [he]; simp
       refine wpList_append' leaf_elem Lf.cs_len Lf.cs_one rfl (.tmp 18) (.tmp 19) rfl (base := w.heap.size) (v := .slice a2' a.length c2') (ys := a) (xs := b) H3.out rfl rfl hz3 (Sl.ov HS2.out (ov_tr O2.out O3.out)) (by unfold maxLen; omega) (by omega) ?_; intro v4 m4 ho4 _; refine gen_w ?_; intro W4 hW4; have C4 : Chg (Value.slice a2' a.length c2').ownBlock.toList W3 W4 := by rw [hW4]; exact chg_chg _ _ _
       rw [← hW4] at ho4; have O4 : Hid (∃ e, W4 = over w e) := hid (Chg.ov (ov_tr O2.out O3.out) C4 (fun g hg => (Own.lt H3.out (by simpa using hg)).1)); obtain ⟨a4, c4, rfl, hs4⟩ := Own.slice Lf.cs_len ho4; rw [HN.out]; have S4 := hid hs4; clear ho4 hs4 hW3 hW4 C4 H2 H3 O3 O2 hz3))
  go_loopw [5, 7] (fun o i wr => ∃ (k : Nat) (O : List Lf), k ≤ N ∧ i = .int .i64 (k : Nat) ∧ ApO a b ((a ++ b).take k) O ∧ OwnLf W4.heap.size wr o O ∧ Ov W4 wr) (fun _ i _ => N - (intOf i).toNat)
  case atStart => exact ⟨0, [], Nat.zero_le _, rfl, by rw [List.take_zero]; exact ApO.nil _ _, Own.nil _, ovA⟩
  case round =>
   obtain ⟨k, O, hk, rfl, hap, hown, hov⟩ := hrel; have O5 : Hid (∃ e, wr = over W4 e) := hid hov; have HOW := hid hown; obtain ⟨ao, co, rfl, hso⟩ := Own.slice Lf.cs_len hown; have hol := hap.len; rw [List.length_take, HN.out] at hol; by_cases hlt : k < N
   · have hlt' : k < (a ++ b).length := by rw [HN.out]; exact hlt
     have htk := List.take_succ_eq_append_getElem hlt'; obtain ⟨cb, cof, rfl, hcb, q0, q1, _, _⟩ := SlL.at_ (Sl.ov S4.out hov) hlt'; obtain ⟨x, hx⟩ : ∃ x, (a ++ b)[k]'hlt' = x := ⟨_, rfl⟩; rw [hx] at htk q0 q1; have hue := un_eq a b x.s x.c; have hce := cnt_eq a x.s x.c; have K1 := hid (HX1.out x.s x.c); have K2 := hid (HX2.out x.s x.c); obtain ⟨b1, hb1⟩ : ∃ z, (fnd a x.s x.c).isSome = z := ⟨_, rfl⟩; obtain ⟨b2, hb2⟩ : ∃ z, (fnd b x.s x.c).isSome = z := ⟨_, rfl⟩; obtain ⟨z1, hz1⟩ : ∃ z, lfZ (fnd a x.s x.c) = z := ⟨_, rfl⟩; obtain ⟨z2, hz2⟩ : ∃ z, lfZ (fnd b x.s x.c) = z := ⟨_, rfl⟩; rw [hb1, hb2, hz1, hz2] at hue; rw [hz1] at hce; rw [hz1, hb1] at K1; rw [hz2, hb2] at K2; have HAP := hid hap; have HTK := hid htk; have HUE := hid hue; have HCE := hid hce; obtain ⟨xs, xc, xn, xm⟩ := x; obtain ⟨p1, p2, p3, p4⟩ := z1; obtain ⟨r1, r2, r3, r4⟩ := z2; simp only at q0 q1; have hd : decide (k < N) = true := decide_eq_true hlt; simp only [Lf.v] at K1 K2; clear hap hown hso hov htk hx hue hce hb1 hb2 hz1 hz2; go_wp2; obtain ⟨wr0, hwr0⟩ : ∃ W : World, W = wr := ⟨_, rfl⟩; subst hwr0; apply rg4 (F := fun q _ _ _ w' => FndB wr0 w' q ⟨p1, p2, p3, p4⟩)
     case h1 =>
      refine M2.wp_region_tree (fun w' => ∃ e : World, w' = over _ e) [11, 15, 16] (.q 0 (.q 1 (.q 2 (.q 3 (.q 4 (.q 5 (.q 6 (.q 7 (.q 8 (.q 9 (.q 10 (.e 11 (.q 12 (.q 13 (.q 14 (.e 15 (.e 16 (.q 17 .done) .no) .no)))) (.e 15 (.e 11 (.q 12 (.q 13 (.q 14 (.e 16 (.q 17 .done) .no)))) .no) .no))))))))))))) (by kernel_rfl) (by kernel_rfl) (ex_drew (ovs _)) ?_; repeat (refine M2.tree_q rfl rfl ?_; go_big_quiet_step (fail); with_reducible refine wpQuiet_nil ?_)
      refine M2.tree_e (k := 11) rfl ?_ ?_
      · go_wp2_with ((go_at_call 45; (with_reducible refine (K1.out _ (by exact ov_tr O4.out (ovB O5.out))).mono ?_); rintro _ _ ⟨⟨e6, rfl⟩, rfl⟩))
        refine M2.TreeQ.mk ovA ?_; repeat (refine M2.tree_q rfl rfl ?_; go_big_quiet_step (fail); with_reducible refine wpQuiet_nil ?_)
        refine M2.tree_e1 (k := 15) rfl ?_; go_wp2_with (fail)
        refine M2.TreeQ.mk ovA ?_; refine M2.tree_e1 (k := 16) rfl ?_; go_wp2_with (fail)
        refine M2.TreeQ.mk ovA ?_; repeat (refine M2.tree_q rfl rfl ?_; go_big_quiet_step (fail); with_reducible refine wpQuiet_nil ?_)
        refine M2.trd ?_; obtain ⟨q1, hq1⟩ : ∃ q, q = (wr0.heap.size + e6.heap.size) := ⟨_, rfl⟩; rw [← hq1]; obtain ⟨q2, _⟩ : ∃ q : Nat, True := ⟨0, trivial⟩; obtain ⟨a9, _⟩ : ∃ q : Option Addr, True := ⟨none, trivial⟩; obtain ⟨c9, _⟩ : ∃ q : Nat, True := ⟨0, trivial⟩; refine RgPost.mk q1 q2 a9 c9 rfl ?_; refine ⟨ovA, Blk.to (by repeat (first | exact Blk.new' (by first | exact hq1 | (rw [hq1]; simp; done) | (rw [hq1]; simp; omega)) | with_reducible refine Blk.drew ?_ | with_reducible refine Blk.on ?_ _ | with_reducible refine Blk.alloc ?_ _ | with_reducible refine Blk.set ?_ _ _)) rfl, by omega⟩
      refine M2.tree_e (k := 15) rfl ?_ ?_
      · go_wp2_with (fail)
        refine M2.TreeQ.mk ovA ?_; refine M2.tree_e1 (k := 11) rfl ?_; go_wp2_with ((go_at_call 45; (with_reducible refine (K1.out _ (by exact ov_tr O4.out (ovB O5.out))).mono ?_); rintro _ _ ⟨⟨e6, rfl⟩, rfl⟩))
        refine M2.TreeQ.mk ovA ?_; repeat (refine M2.tree_q rfl rfl ?_; go_big_quiet_step (fail); with_reducible refine wpQuiet_nil ?_)
        refine M2.tree_e1 (k := 16) rfl ?_; go_wp2_with (fail)
        refine M2.TreeQ.mk ovA ?_; repeat (refine M2.tree_q rfl rfl ?_; go_big_quiet_step (fail); with_reducible refine wpQuiet_nil ?_)
        refine M2.trd ?_; obtain ⟨q1, hq1⟩ : ∃ q, q = (wr0.heap.size) := ⟨_, rfl⟩; rw [← hq1]; obtain ⟨q2, _⟩ : ∃ q : Nat, True := ⟨0, trivial⟩; obtain ⟨a9, _⟩ : ∃ q : Option Addr, True := ⟨none, trivial⟩; obtain ⟨c9, _⟩ : ∃ q : Nat, True := ⟨0, trivial⟩; refine RgPost.mk q1 q2 a9 c9 rfl ?_; refine ⟨ovA, Blk.to (by repeat (first | exact Blk.new' (by first | exact hq1 | (rw [hq1]; simp; done) | (rw [hq1]; simp; omega)) | with_reducible refine Blk.drew ?_ | with_reducible refine Blk.on ?_ _ | with_reducible refine Blk.alloc ?_ _ | with_reducible refine Blk.set ?_ _ _)) rfl, by omega⟩
      exact M2.tree_no
     case h2 =>
      intro t8 _ _ _ W6 hF6; have O6 : Hid (∃ e, W6 = over W4 e) := hid (ov_tr O5.out hF6.ov); have B8 := hid hF6.blk; have O56 := hid hF6.ov; clear hF6; have q60 : W6.cell? ⟨cb, cof + k * 4, none⟩ = some (.int .u32 (xs : Nat)) := by obtain ⟨e, he⟩ := O56.out; rw [he, cell_over _ _ _ _ hcb]; exact q0
      have q61 : W6.cell? ⟨cb, cof + k * 4 + 1, none⟩ = some (.int .u32 (xc : Nat)) := by obtain ⟨e, he⟩ := O56.out; rw [he, cell_over _ _ _ _ hcb]; exact q1
      have hcb6 : cb < W6.heap.size := by obtain ⟨e, he⟩ := O56.out; rw [he]; simp; omega
      have Q0 := hid q0; have Q1 := hid q1; clear q0 q1; go_wp2; apply rg4 (F := fun q _ _ _ w' => FndB W6 w' q ⟨r1, r2, r3, r4⟩)
      case h1 =>
       refine M2.wp_region_tree (fun w' => ∃ e : World, w' = over _ e) [11, 15, 16] (.q 0 (.q 1 (.q 2 (.q 3 (.q 4 (.q 5 (.q 6 (.q 7 (.q 8 (.q 9 (.q 10 (.e 11 (.q 12 (.q 13 (.q 14 (.e 15 (.e 16 (.q 17 .done) .no) .no)))) (.e 15 (.e 11 (.q 12 (.q 13 (.q 14 (.e 16 (.q 17 .done) .no)))) .no) .no))))))))))))) (by kernel_rfl) (by kernel_rfl) (ex_drew (ovs _)) ?_; repeat (refine M2.tree_q rfl rfl ?_; go_big_quiet_step (fail); with_reducible refine wpQuiet_nil ?_)
       refine M2.tree_e (k := 11) rfl ?_ ?_
       · go_wp2_with ((go_at_call 45; (with_reducible refine (K2.out _ (by exact ov_tr O4.out (ovB O6.out))).mono ?_); rintro _ _ ⟨⟨e6, rfl⟩, rfl⟩))
         refine M2.TreeQ.mk ovA ?_; repeat (refine M2.tree_q rfl rfl ?_; go_big_quiet_step (fail); with_reducible refine wpQuiet_nil ?_)
         refine M2.tree_e1 (k := 15) rfl ?_; go_wp2_with (fail)
         refine M2.TreeQ.mk ovA ?_; refine M2.tree_e1 (k := 16) rfl ?_; go_wp2_with (fail)
         refine M2.TreeQ.mk ovA ?_; repeat (refine M2.tree_q rfl rfl ?_; go_big_quiet_step (fail); with_reducible refine wpQuiet_nil ?_)
         refine M2.trd ?_; obtain ⟨q1, hq1⟩ : ∃ q, q = (W6.heap.size + e6.heap.size) := ⟨_, rfl⟩; rw [← hq1]; obtain ⟨q2, _⟩ : ∃ q : Nat, True := ⟨0, trivial⟩; obtain ⟨a9, _⟩ : ∃ q : Option Addr, True := ⟨none, trivial⟩; obtain ⟨c9, _⟩ : ∃ q : Nat, True := ⟨0, trivial⟩; refine RgPost.mk q1 q2 a9 c9 rfl ?_; refine ⟨ovA, Blk.to (by repeat (first | exact Blk.new' (by first | exact hq1 | (rw [hq1]; simp; done) | (rw [hq1]; simp; omega)) | with_reducible refine Blk.drew ?_ | with_reducible refine Blk.on ?_ _ | with_reducible refine Blk.alloc ?_ _ | with_reducible refine Blk.set ?_ _ _)) rfl, by omega⟩
       refine M2.tree_e (k := 15) rfl ?_ ?_
       · go_wp2_with (fail)
         refine M2.TreeQ.mk ovA ?_; refine M2.tree_e1 (k := 11) rfl ?_; go_wp2_with ((go_at_call 45; (with_reducible refine (K2.out _ (by exact ov_tr O4.out (ovB O6.out))).mono ?_); rintro _ _ ⟨⟨e6, rfl⟩, rfl⟩))
         refine M2.TreeQ.mk ovA ?_; repeat (refine M2.tree_q rfl rfl ?_; go_big_quiet_step (fail); with_reducible refine wpQuiet_nil ?_)
         refine M2.tree_e1 (k := 16) rfl ?_; go_wp2_with (fail)
         refine M2.TreeQ.mk ovA ?_; repeat (refine M2.tree_q rfl rfl ?_; go_big_quiet_step (fail); with_reducible refine wpQuiet_nil ?_)
         refine M2.trd ?_; obtain ⟨q1, hq1⟩ : ∃ q, q = (W6.heap.size) := ⟨_, rfl⟩; rw [← hq1]; obtain ⟨q2, _⟩ : ∃ q : Nat, True := ⟨0, trivial⟩; obtain ⟨a9, _⟩ : ∃ q : Option Addr, True := ⟨none, trivial⟩; obtain ⟨c9, _⟩ : ∃ q : Nat, True := ⟨0, trivial⟩; refine RgPost.mk q1 q2 a9 c9 rfl ?_; refine ⟨ovA, Blk.to (by repeat (first | exact Blk.new' (by first | exact hq1 | (rw [hq1]; simp; done) | (rw [hq1]; simp; omega)) | with_reducible refine Blk.drew ?_ | with_reducible refine Blk.on ?_ _ | with_reducible refine Blk.alloc ?_ _ | with_reducible refine Blk.set ?_ _ _)) rfl, by omega⟩
       exact M2.tree_no
      case h2 =>
       intro t10 _ _ _ W7 hF7; have O7 : Hid (∃ e, W7 = over W4 e) := hid (ov_tr O6.out hF7.ov); have O67 := hid hF7.ov; have B10 := hid hF7.blk; have B8' : Hid (Blk W7 t8 [.int .u32 (p1 : Nat), .int .u32 (p2 : Nat), .int .u32 (p3 : Nat), .int .u64 (p4 : Nat)] 65) := hid (by obtain ⟨e, he⟩ := hF7.ov; rw [he]; exact Blk.on B8.out e); have q70 : W7.cell? ⟨cb, cof + k * 4, none⟩ = some (.int .u32 (xs : Nat)) := by obtain ⟨e, he⟩ := O67.out; rw [he, cell_over _ _ _ _ hcb6]; exact q60
       have q71 : W7.cell? ⟨cb, cof + k * 4 + 1, none⟩ = some (.int .u32 (xc : Nat)) := by obtain ⟨e, he⟩ := O67.out; rw [he, cell_over _ _ _ _ hcb6]; exact q61
       have hcb7 : cb < W7.heap.size := by obtain ⟨e, he⟩ := O67.out; rw [he]; simp; omega
       have H7 : Hid (OwnLf W4.heap.size W7 (.slice ao O.length co) O) := hid (by obtain ⟨e, he⟩ := ov_tr O56.out O67.out; rw [he]; exact HOW.out.over e); have g80 := B8'.out.cell 0 rfl; have g81 := B8'.out.cell 1 rfl; have g82 := B8'.out.cell 2 rfl; have g83 := B8'.out.cell 3 rfl; have g8l := B8'.out.lt; have g10 := B10.out.cell 0 rfl; have g11 := B10.out.cell 1 rfl; have g12 := B10.out.cell 2 rfl; have g13 := B10.out.cell 3 rfl; have g1l := B10.out.lt; simp only at g80 g81 g82 g83 g10 g11 g12 g13; clear hF7 q60 q61 hcb6 O56 O67 B8 HOW O5 Q0 Q1 hcb; have hue := HUE.out; have hce : p3 = cntU a xs xc := HCE.out; obtain ⟨be, hbe⟩ : ∃ z, lfEq ⟨p1, p2, p3, p4⟩ ⟨r1, r2, r3, r4⟩ = z := ⟨_, rfl⟩; rw [hbe] at hue; obtain ⟨B, hB⟩ : ∃ B, (b1 && b2 && be) = B := ⟨_, rfl⟩; rw [hB] at hue; have HUE2 := hid hue; have HCE2 := hid hce; clear hue hce HUE HCE
       go_upto_region 10 with (fail)
       go_cut [65] from 57 to 65 (fun s65 wc => s65 = .bool B ∧ wc = W7)
       case first =>
        cases b1 with
        | false =>
         subst hB; go_wp2_with fail
         go_meet
         case rel => exact ⟨rfl, rfl⟩
        | true =>
         cases b2 with
         | false =>
          subst hB; go_wp2_with fail
          go_meet
          case rel => exact ⟨rfl, rfl⟩
         | true =>
          subst hB; cases be with
          | true =>
           go_wp2_with fail
           go_meet
           case rel => exact ⟨rfl, rfl⟩
          | false =>
           go_wp2_with fail
           go_meet
           case rel => exact ⟨rfl, rfl⟩
       case rest =>
        obtain ⟨rfl, hwc⟩ := hcut; obtain rfl := hwc.symm; have hue := HUE2.out; have hce := HCE2.out; clear hB HUE2 HCE2; cases B with
        | true =>
         have HN := hid (ApO.skip HAP.out (x := ⟨xs, xc, xn, xm⟩) (by rw [hue]; rfl)); clear hue hce hbe; go_wp2; go_roundw
         case rel => exact ⟨k + 1, O, by omega, by go_num, by rw [HTK.out]; exact HN.out, H7.out, O7.out⟩
         case measure => (simp [intOf]; try omega)
        | false =>
         have hun : un a b xs xc = true := by rw [hue]; rfl
         have HUN := hid hun; have HCN := hid hce; clear hue hce hun; go_wp2; refine M2.wrm [13, 14] 14 (by kernel_rfl) (by kernel_rfl) (by decide) ?_; simp only [M2.td]; with_reducible refine M2.mlq 13 (by kernel_rfl) ?_
         simp only [M2.td]; repeat (go_big_quiet_step (fail))
         with_reducible refine wpQuiet_nil ?_
         with_reducible refine M2.mle (by decide) ?_
         go_wp2_with (fail)
         refine M2.MixQ.mk ovA ?_; with_reducible refine M2.mln ?_
         with_reducible refine M2.mle (by decide) ?_
         go_wp2_with (fail)
         refine M2.MixQ.mk trivial ?_; with_reducible refine M2.mln ?_
         clear hbe; refine gen_w ?_; intro W8 hW8; have O78 : Hid (∃ e, W8 = over W7 e) := hid (by rw [hW8]; exact ovA); have B12 : Hid (Blk W8 W7.heap.size [.int .u32 (xs : Nat), .int .u32 (xc : Nat), .int .u32 (p3 : Nat), .int .u64 0] 65) := hid (by rw [hW8]; exact Blk.to (by repeat (first | exact Blk.new' (by first | rfl | (simp; done)) | with_reducible refine Blk.drew ?_ | with_reducible refine Blk.on ?_ _ | with_reducible refine Blk.alloc ?_ _ | with_reducible refine Blk.set ?_ _ _)) rfl); obtain ⟨t12, ht12⟩ : ∃ t, W7.heap.size = t := ⟨_, rfl⟩; rw [ht12] at B12; rw [ht12]; have O8 : Hid (∃ e, W8 = over W4 e) := hid (ov_tr O7.out O78.out); have H8 : Hid (OwnLf W4.heap.size W8 (.slice ao O.length co) O) := hid (by obtain ⟨e, he⟩ := O78.out; rw [he]; exact H7.out.over e); have HSO : Hid (SlL W8 ao co O) := hid (Own.slice' Lf.cs_len H8.out).2; have n0 := B12.out.cell 0 rfl; have n1 := B12.out.cell 1 rfl; have n2 := B12.out.cell 2 rfl; have n3 := B12.out.cell 3 rfl; have nl := B12.out.lt; have hcol := HSO.out.le; have hcom := HSO.out.max; have hmo := len_max HSO.out; clear hW8 ht12 O78 H7 O7 B8' B10 g80 g81 g82 g83 g8l g10 g11 g12 g13 g1l q70 q71 hcb7; go_wp2
         go_loopw [13] (fun i wr => ∃ j : Nat, j ≤ O.length ∧ i = .int .i64 (j : Nat) ∧ (∀ i, (h : i < j) → ∀ h2 : i < O.length, O[i].s < xs) ∧ Ov W8 wr) (fun i _ => O.length - (intOf i).toNat)
         case atStart => exact ⟨0, Nat.zero_le _, rfl, fun i h => absurd h (by omega), ovA⟩
         case round =>
          obtain ⟨j, hj, rfl, hlo, ⟨e9, rfl⟩⟩ := hrel; have HLO := hid hlo; clear hlo; by_cases hj2 : j < O.length
          · obtain ⟨g, cg, hv, hgb, hob, hcell, hfr⟩ := Own.open_ Lf.cs_len H8.out (by omega)
            injection hv with v1 v2 v3
            subst v1 v3; clear v2; have o0 := hcell j _ (List.getElem?_eq_getElem hj2) 0 _ rfl; have o1 := hcell j _ (List.getElem?_eq_getElem hj2) 1 _ rfl; have o2 := hcell j _ (List.getElem?_eq_getElem hj2) 2 _ rfl; have o3 := hcell j _ (List.getElem?_eq_getElem hj2) 3 _ rfl; rw [Nat.add_zero] at o0; obtain ⟨y, hy⟩ : ∃ y, O[j]'hj2 = y := ⟨_, rfl⟩; rw [hy] at o0 o1 o2 o3; have HY := hid hy; have HJ2 := hid hj2; have HSR : Hid (OwnLf W4.heap.size ((((W8.setCell ⟨g, j * 4, none⟩ (.int .u32 (xs : Nat))).setCell ⟨g, j * 4 + 1, none⟩ (.int .u32 (xc : Nat))).setCell ⟨g, j * 4 + 2, none⟩ (.int .u32 (p3 : Nat))).setCell ⟨g, j * 4 + 3, none⟩ (.int .u64 0)) (.slice (some ⟨g, 0, none⟩) O.length co) (O.set j ⟨xs, xc, p3, 0⟩)) := hid (by
             have h := Own.setRec Lf.cs_len H8.out hj2 ⟨xs, xc, p3, 0⟩; exact h)
            clear hcell; have hdj : decide (j < O.length) = true := decide_eq_true hj2; obtain ⟨ys, yc, yn, ym⟩ := y; simp only [Lf.cs] at o0 o1 o2 o3; clear hy; by_cases hys : ys < xs
            · have hdy : decide (ys < xs) = true := decide_eq_true hys; have HLO2 : Hid (∀ i, (h : i < j + 1) → ∀ h2 : i < O.length, O[i].s < xs) := hid (fun i h h2 => by
               rcases Nat.lt_or_ge i j with h3 | h3
               · exact HLO.out i h3 h2
               · obtain rfl : i = j := by omega
                 have := HY.out; rw [this]; exact hys)
              go_wp2; refine wro (by kernel_rfl) (by kernel_rfl) ?_; repeat (go_big_quiet_step ((fail)))
              refine wpQuiet_nil ?_; intro _ hw'; obtain ⟨nq, rfl⟩ := hw'; go_wp2; go_roundw
              case rel => exact ⟨j + 1, by omega, by go_num, HLO2.out, ovA⟩
              case measure => (simp [intOf]; try omega)
            · have hdy : decide (ys < xs) = false := decide_eq_false hys; have HAT : Hid (AtP O xs j) := hid ⟨hj, fun i h => HLO.out i h (by omega), fun h => by rw [HY.out]; exact Nat.le_of_not_lt hys⟩; by_cases hye : ys = xs
              · have hyb : ((ys : Int) == (xs : Int)) = true := by rw [hye]; simp
                by_cases hc : xc < yc
                · have hdc : decide (xc < yc) = true := decide_eq_true hc; have HN2 := hid (ApO.set_ HAP.out (x := ⟨xs, xc, xn, xm⟩) HUN.out HJ2.out (by rw [HY.out]; exact hye) (by rw [HY.out]; exact hc)); go_wp2; refine wro (by kernel_rfl) (by kernel_rfl) ?_; repeat (go_big_quiet_step ((fail)))
                  refine wpQuiet_nil ?_; intro _ hw'; obtain ⟨nq, rfl⟩ := hw'; go_wp2; refine wro (by kernel_rfl) (by kernel_rfl) ?_; repeat (go_big_quiet_step ((fail)))
                  refine wpQuiet_nil ?_; intro _ hw'; obtain ⟨nq, rfl⟩ := hw'; go_wp2; refine wro (by kernel_rfl) (by kernel_rfl) ?_; repeat (go_big_quiet_step ((fail)))
                  refine wpQuiet_nil ?_; intro _ hw'; obtain ⟨nq, rfl⟩ := hw'; go_wp2; go_roundw
                  case rel => exact ⟨k + 1, O.set j ⟨xs, xc, p3, 0⟩, by omega, by go_num, by (rw [HTK.out]; have h := HN2.out; rw [← HCN.out] at h; exact h), (by exact ownA HSR.out), Chg.ov (F := [g]) O8.out (by exact chA) (by simp; exact hgb)⟩
                  case measure => (simp [intOf]; try omega)
                · have hdc : decide (xc < yc) = false := decide_eq_false hc; have HN2 := hid (ApO.stay HAP.out (x := ⟨xs, xc, xn, xm⟩) HUN.out HJ2.out (by rw [HY.out]; exact hye) (by rw [HY.out]; exact hc)); go_wp2; refine wro (by kernel_rfl) (by kernel_rfl) ?_; repeat (go_big_quiet_step ((fail)))
                  refine wpQuiet_nil ?_; intro _ hw'; obtain ⟨nq, rfl⟩ := hw'; go_wp2; refine wro (by kernel_rfl) (by kernel_rfl) ?_; repeat (go_big_quiet_step ((fail)))
                  refine wpQuiet_nil ?_; intro _ hw'; obtain ⟨nq, rfl⟩ := hw'; go_wp2; refine wro (by kernel_rfl) (by kernel_rfl) ?_; repeat (go_big_quiet_step ((fail)))
                  refine wpQuiet_nil ?_; intro _ hw'; obtain ⟨nq, rfl⟩ := hw'; go_wp2; go_roundw
                  case rel => exact ⟨k + 1, O, by omega, by go_num, by rw [HTK.out]; exact HN2.out, (by exact ownA H8.out), by exact ov_tr O8.out ovA⟩
                  case measure => (simp [intOf]; try omega)
              · have hyb : ((ys : Int) == (xs : Int)) = false := by simp; omega
                have HN2 := hid (ApO.ins HAP.out (x := ⟨xs, xc, xn, xm⟩) HUN.out HAT.out (fun h => by rw [HY.out]; exact hye)); have hsp : O.take j ++ O.drop j = O := List.take_append_drop _ _; have htl : (O.take j).length = j := by rw [List.length_take]; omega
                have hdl : (O.drop j).length = O.length - j := List.length_drop; have hsl9 : SlL W8 (some ⟨g, 0, none⟩) co (O.take j ++ O.drop j) := by rw [hsp]; exact HSO.out
                have HT9 := hid (Sl.takeF hsl9); have hdr := Sl.dropF hsl9; rw [htl, if_neg (by omega), Option.map_some, Go.WideShapes.add_plain, Nat.zero_add] at hdr; have HD9 := hid hdr; have HTL := hid htl; have HDL := hid hdl; clear hsp htl hdl hsl9 hdr; go_wp2; refine wro (by kernel_rfl) (by kernel_rfl) ?_; repeat (go_big_quiet_step ((fail)))
                refine wpQuiet_nil ?_; intro _ hw'; obtain ⟨nq, rfl⟩ := hw'; go_wp2; refine wro (by kernel_rfl) (by kernel_rfl) ?_; repeat (go_big_quiet_step ((fail)))
                refine wpQuiet_nil ?_; intro _ hw'; obtain ⟨nq, rfl⟩ := hw'
                go_wp2_with (first
                  | (at_builtin
                     refine gen_w ?_; intro W11 hW11; have O11 : Hid (∃ e, W11 = over W8 e) := hid (by rw [hW11]; exact ovA); refine wpList_append' leaf_elem Lf.cs_len Lf.cs_one rfl (.tmp 121) (.tmp 124) rfl (base := W8.heap.size) (v := .slice none 0 0) (ys := []) (xs := O.take j) (Own.nil _) rfl (by rw [HTL.out]; rfl) (by obtain ⟨e, he⟩ := O11.out; rw [he]; simp) (Sl.ov HT9.out O11.out) (by rw [HTL.out]; simp only [List.length_nil]; unfold maxLen; omega) (by rw [HTL.out]; simp only [List.length_nil]; omega) ?_; intro v12 m12 ho12 _; refine gen_w ?_; intro W12 hW12; have C12 : Chg [] W11 W12 := by rw [hW12]; exact chg_chg _ _ _
                     rw [← hW12, List.nil_append] at ho12; have O12 : Hid (∃ e, W12 = over W8 e) := hid (Chg.ov O11.out C12 (by simp)); obtain ⟨a12, c12, rfl, _⟩ := Own.slice Lf.cs_len ho12; rw [HTL.out] at ho12 ⊢; have H12 := hid ho12; have B12' : Hid (Blk W12 t12 [.int .u32 (xs : Nat), .int .u32 (xc : Nat), .int .u32 (p3 : Nat), .int .u64 0] 65) := hid (by obtain ⟨e, he⟩ := O12.out; rw [he]; exact Blk.on B12.out e); have m0 := B12'.out.cell 0 rfl; have m1 := B12'.out.cell 1 rfl; have m2 := B12'.out.cell 2 rfl; have m3 := B12'.out.cell 3 rfl; have ml := B12'.out.lt; clear ho12 hW11 hW12 C12 O11)
                  | (at_builtin
                     refine gen_w ?_; intro W13 hW13; have O13 : Hid (∃ e, W13 = over W12 e) := hid (by rw [hW13]; exact ovA); have H13 : Hid (OwnLf W8.heap.size W13 (.slice a12 j c12) (O.take j)) := hid (by obtain ⟨e, he⟩ := O13.out; rw [he]; exact H12.out.over e); have hz13 : W8.heap.size ≤ W13.heap.size := by obtain ⟨e, he⟩ := ov_tr O12.out O13.out; rw [he]; simp
                     refine wpList_append' leaf_elem Lf.cs_len Lf.cs_one rfl (.tmp 126) (.tmp 128) rfl (base := W8.heap.size) (v := .slice a12 j c12) (ys := O.take j) (xs := [⟨xs, xc, p3, 0⟩]) H13.out rfl rfl hz13 (by rw [hW13]; exact (by (repeat with_reducible refine Sl.drew ?_); exact Sl.one_new (y := (⟨xs, xc, p3, 0⟩ : Lf)) (by simp; try omega))) (by rw [HTL.out]; simp only [List.length_singleton]; unfold maxLen; omega) (by rw [HTL.out]; simp only [List.length_singleton]; omega) ?_; intro v14 m14 ho14 _; refine gen_w ?_; intro W14 hW14; have C14 : Chg (Value.slice a12 j c12).ownBlock.toList W13 W14 := by rw [hW14]; exact chg_chg _ _ _
                     rw [← hW14] at ho14; have O14 : Hid (∃ e, W14 = over W8 e) := hid (Chg.ov (ov_tr O12.out O13.out) C14 (fun g hg => (Own.lt H13.out (by simpa using hg)).1)); obtain ⟨a14, c14, rfl, _⟩ := Own.slice Lf.cs_len ho14; have hl14 : (O.take j ++ [(⟨xs, xc, p3, 0⟩ : Lf)]).length = j + 1 := by rw [List.length_append, HTL.out]; rfl
                     rw [hl14] at ho14 ⊢; have HL14 := hid hl14; have H14 := hid ho14; clear ho14 hW13 hW14 C14 O13 H13 H12 hz13 hl14 B12' m0 m1 m2 m3 ml O12)
                  | (at_builtin
                     refine gen_w ?_; intro W15 hW15; have O15 : Hid (∃ e, W15 = over W14 e) := hid (by rw [hW15]; exact ovA); have H15 : Hid (OwnLf W8.heap.size W15 (.slice a14 (j + 1) c14) (O.take j ++ [⟨xs, xc, p3, 0⟩])) := hid (by obtain ⟨e, he⟩ := O15.out; rw [he]; exact H14.out.over e); have hz15 : W8.heap.size ≤ W15.heap.size := by obtain ⟨e, he⟩ := ov_tr O14.out O15.out; rw [he]; simp
                     refine wpList_append' leaf_elem Lf.cs_len Lf.cs_one rfl (.tmp 130) (.tmp 133) rfl (base := W8.heap.size) (v := .slice a14 (j + 1) c14) (ys := O.take j ++ [⟨xs, xc, p3, 0⟩]) (xs := O.drop j) H15.out rfl (by rw [HDL.out]; rfl) hz15 (Sl.ov HD9.out (ov_tr O14.out O15.out)) (by rw [HDL.out, HL14.out]; unfold maxLen; omega) (by rw [HDL.out, HL14.out]; omega) ?_; intro v16 m16 ho16 _; refine gen_w ?_; intro W16 hW16; have C16 : Chg (Value.slice a14 (j + 1) c14).ownBlock.toList W15 W16 := by rw [hW16]; exact chg_chg _ _ _
                     rw [← hW16] at ho16; have O16 : Hid (∃ e, W16 = over W8 e) := hid (Chg.ov (ov_tr O14.out O15.out) C16 (fun g hg => (Own.lt H15.out (by simpa using hg)).1)); have H16 := hid ho16; clear ho16 hW15 hW16 C16 O15 H15 H14 hz15 O14))
                go_roundw
                case rel => exact ⟨k + 1, O.take j ++ [⟨xs, xc, p3, 0⟩] ++ O.drop j, by omega, by go_num, by (rw [HTK.out]; have h := HN2.out; rw [← HCN.out] at h; exact h), Own.mono H16.out (by obtain ⟨e, he⟩ := O8.out; rw [he]; simp), by exact ov_tr O8.out O16.out⟩
                case measure => (simp [intOf]; try omega)
          · have hjl : j = O.length := by omega
            have HAT : Hid (AtP O xs j) := hid ⟨hj, fun i h => HLO.out i h (by omega), fun h => absurd h (by omega)⟩; have HN2 := hid (ApO.ins HAP.out (x := ⟨xs, xc, xn, xm⟩) HUN.out HAT.out (fun h => absurd h (by omega))); have hsp : O.take j ++ O.drop j = O := List.take_append_drop _ _; have htl : (O.take j).length = j := by rw [List.length_take]; omega
            have hdl : (O.drop j).length = O.length - j := List.length_drop; have hsl9 : SlL W8 ao co (O.take j ++ O.drop j) := by rw [hsp]; exact HSO.out
            have HT9 := hid (Sl.takeF hsl9); have hdr := Sl.dropF hsl9; rw [htl] at hdr; have HTL := hid htl; have HDL := hid hdl; have HJL := hid hjl; have hdj : decide (j < O.length) = false := decide_eq_false hj2; by_cases hcj : j = co
            · rw [if_pos hcj.symm] at hdr; subst hcj; rw [Nat.sub_self] at hdr; have HD9 := hid hdr; have hdl0 : (O.drop j).length = 0 := by rw [hdl]; omega
              have HDL := hid hdl0; rcases H8.out.2 with hn | ⟨g, cg, cur, hv, _⟩
              · have h1 := hn.1
                injection h1 with v1 v2 v3
                subst v1 v3; obtain rfl : O = [] := List.eq_nil_of_length_eq_zero v2; clear hn v2; clear hsp htl hdl hdl0 hsl9 hdr hjl; go_wp2; refine wro (by kernel_rfl) (by kernel_rfl) ?_; repeat (go_big_quiet_step ((fail)))
                refine wpQuiet_nil ?_; intro _ hw'; obtain ⟨nq, rfl⟩ := hw'; go_wp2; refine wro (by kernel_rfl) (by kernel_rfl) ?_; repeat (go_big_quiet_step ((fail)))
                refine wpQuiet_nil ?_; intro _ hw'; obtain ⟨nq, rfl⟩ := hw'
                go_wp2_with (first
                  | (at_builtin
                     refine gen_w ?_; intro W11 hW11; have O11 : Hid (∃ e, W11 = over W8 e) := hid (by rw [hW11]; exact ovA); refine wpList_append' leaf_elem Lf.cs_len Lf.cs_one rfl (.tmp 121) (.tmp 124) rfl (base := W8.heap.size) (v := .slice none 0 0) (ys := []) (xs := ([] : List Lf)) (Own.nil _) rfl rfl (by obtain ⟨e, he⟩ := O11.out; rw [he]; simp) (Sl.nil _) (by simp only [List.length_nil]; unfold maxLen; omega) (by simp only [List.length_nil]; omega) ?_; intro v12 m12 ho12 _; refine gen_w ?_; intro W12 hW12; have C12 : Chg [] W11 W12 := by rw [hW12]; exact chg_chg _ _ _
                     rw [← hW12, List.nil_append] at ho12; have O12 : Hid (∃ e, W12 = over W8 e) := hid (Chg.ov O11.out C12 (by simp)); obtain ⟨a12, c12, rfl, _⟩ := Own.slice Lf.cs_len ho12; rw [List.length_nil] at ho12 ⊢; have H12 := hid ho12; have B12' : Hid (Blk W12 t12 [.int .u32 (xs : Nat), .int .u32 (xc : Nat), .int .u32 (p3 : Nat), .int .u64 0] 65) := hid (by obtain ⟨e, he⟩ := O12.out; rw [he]; exact Blk.on B12.out e); have m0 := B12'.out.cell 0 rfl; have m1 := B12'.out.cell 1 rfl; have m2 := B12'.out.cell 2 rfl; have m3 := B12'.out.cell 3 rfl; have ml := B12'.out.lt; clear ho12 hW11 hW12 C12 O11)
                  | (at_builtin
                     refine gen_w ?_; intro W13 hW13; have O13 : Hid (∃ e, W13 = over W12 e) := hid (by rw [hW13]; exact ovA); have H13 : Hid (OwnLf W8.heap.size W13 (.slice a12 0 c12) (([] : List Lf))) := hid (by obtain ⟨e, he⟩ := O13.out; rw [he]; exact H12.out.over e); have hz13 : W8.heap.size ≤ W13.heap.size := by obtain ⟨e, he⟩ := ov_tr O12.out O13.out; rw [he]; simp
                     refine wpList_append' leaf_elem Lf.cs_len Lf.cs_one rfl (.tmp 126) (.tmp 128) rfl (base := W8.heap.size) (v := .slice a12 0 c12) (ys := ([] : List Lf)) (xs := [⟨xs, xc, p3, 0⟩]) H13.out rfl rfl hz13 (by rw [hW13]; exact (by (repeat with_reducible refine Sl.drew ?_); exact Sl.one_new (y := (⟨xs, xc, p3, 0⟩ : Lf)) (by simp; try omega))) (by simp only [List.length_singleton, List.length_nil]; unfold maxLen; omega) (by simp only [List.length_singleton, List.length_nil]; omega) ?_; intro v14 m14 ho14 _; refine gen_w ?_; intro W14 hW14; have C14 : Chg (Value.slice a12 0 c12).ownBlock.toList W13 W14 := by rw [hW14]; exact chg_chg _ _ _
                     rw [← hW14] at ho14; have O14 : Hid (∃ e, W14 = over W8 e) := hid (Chg.ov (ov_tr O12.out O13.out) C14 (fun g hg => (Own.lt H13.out (by simpa using hg)).1)); obtain ⟨a14, c14, rfl, _⟩ := Own.slice Lf.cs_len ho14; have hl14 : (([] : List Lf) ++ [(⟨xs, xc, p3, 0⟩ : Lf)]).length = 1 := rfl; rw [hl14] at ho14 ⊢; have HL14 := hid hl14; have H14 := hid ho14; clear ho14 hW13 hW14 C14 O13 H13 H12 hz13 hl14 B12' m0 m1 m2 m3 ml O12)
                  | (at_builtin
                     refine gen_w ?_; intro W15 hW15; have O15 : Hid (∃ e, W15 = over W14 e) := hid (by rw [hW15]; exact ovA); have H15 : Hid (OwnLf W8.heap.size W15 (.slice a14 (1) c14) (([] : List Lf) ++ [⟨xs, xc, p3, 0⟩])) := hid (by obtain ⟨e, he⟩ := O15.out; rw [he]; exact H14.out.over e); have hz15 : W8.heap.size ≤ W15.heap.size := by obtain ⟨e, he⟩ := ov_tr O14.out O15.out; rw [he]; simp
                     refine wpList_append' leaf_elem Lf.cs_len Lf.cs_one rfl (.tmp 130) (.tmp 133) rfl (base := W8.heap.size) (v := .slice a14 (1) c14) (ys := ([] : List Lf) ++ [⟨xs, xc, p3, 0⟩]) (xs := ([] : List Lf)) H15.out rfl rfl hz15 (Sl.nil _) (by rw [HL14.out]; simp only [List.length_nil]; unfold maxLen; omega) (by rw [HL14.out]; simp only [List.length_nil]; omega) ?_; intro v16 m16 ho16 _; refine gen_w ?_; intro W16 hW16; have C16 : Chg (Value.slice a14 (1) c14).ownBlock.toList W15 W16 := by rw [hW16]; exact chg_chg _ _ _
                     rw [← hW16] at ho16; have O16 : Hid (∃ e, W16 = over W8 e) := hid (Chg.ov (ov_tr O14.out O15.out) C16 (fun g hg => (Own.lt H15.out (by simpa using hg)).1)); have H16 := hid ho16; clear ho16 hW15 hW16 C16 O15 H15 H14 hz15 O14))
                go_roundw
                case rel => exact ⟨k + 1, ([] : List Lf) ++ [⟨xs, xc, p3, 0⟩] ++ ([] : List Lf), by omega, by go_num, by (rw [HTK.out]; have h := HN2.out; rw [← HCN.out] at h; exact h), Own.mono H16.out (by obtain ⟨e, he⟩ := O8.out; rw [he]; simp), by exact ov_tr O8.out O16.out⟩
                case measure => (simp [intOf]; try omega)
              · injection hv with v1 v2 v3
                subst v1; clear v2 v3 hj2; clear hsp htl hdl hdl0 hsl9 hdr hjl; go_wp2; refine wro (by kernel_rfl) (by kernel_rfl) ?_; repeat (go_big_quiet_step ((fail)))
                refine wpQuiet_nil ?_; intro _ hw'; obtain ⟨nq, rfl⟩ := hw'; go_wp2; refine wro (by kernel_rfl) (by kernel_rfl) ?_; repeat (go_big_quiet_step ((fail)))
                refine wpQuiet_nil ?_; intro _ hw'; obtain ⟨nq, rfl⟩ := hw'
                go_wp2_with (first
                  | (at_builtin
                     refine gen_w ?_; intro W11 hW11; have O11 : Hid (∃ e, W11 = over W8 e) := hid (by rw [hW11]; exact ovA); refine wpList_append' leaf_elem Lf.cs_len Lf.cs_one rfl (.tmp 121) (.tmp 124) rfl (base := W8.heap.size) (v := .slice none 0 0) (ys := []) (xs := O.take j) (Own.nil _) rfl (by rw [HTL.out]; rfl) (by obtain ⟨e, he⟩ := O11.out; rw [he]; simp) (Sl.ov HT9.out O11.out) (by rw [HTL.out]; simp only [List.length_nil]; unfold maxLen; omega) (by rw [HTL.out]; simp only [List.length_nil]; omega) ?_; intro v12 m12 ho12 _; refine gen_w ?_; intro W12 hW12; have C12 : Chg [] W11 W12 := by rw [hW12]; exact chg_chg _ _ _
                     rw [← hW12, List.nil_append] at ho12; have O12 : Hid (∃ e, W12 = over W8 e) := hid (Chg.ov O11.out C12 (by simp)); obtain ⟨a12, c12, rfl, _⟩ := Own.slice Lf.cs_len ho12; rw [HTL.out] at ho12 ⊢; have H12 := hid ho12; have B12' : Hid (Blk W12 t12 [.int .u32 (xs : Nat), .int .u32 (xc : Nat), .int .u32 (p3 : Nat), .int .u64 0] 65) := hid (by obtain ⟨e, he⟩ := O12.out; rw [he]; exact Blk.on B12.out e); have m0 := B12'.out.cell 0 rfl; have m1 := B12'.out.cell 1 rfl; have m2 := B12'.out.cell 2 rfl; have m3 := B12'.out.cell 3 rfl; have ml := B12'.out.lt; clear ho12 hW11 hW12 C12 O11)
                  | (at_builtin
                     refine gen_w ?_; intro W13 hW13; have O13 : Hid (∃ e, W13 = over W12 e) := hid (by rw [hW13]; exact ovA); have H13 : Hid (OwnLf W8.heap.size W13 (.slice a12 j c12) (O.take j)) := hid (by obtain ⟨e, he⟩ := O13.out; rw [he]; exact H12.out.over e); have hz13 : W8.heap.size ≤ W13.heap.size := by obtain ⟨e, he⟩ := ov_tr O12.out O13.out; rw [he]; simp
                     refine wpList_append' leaf_elem Lf.cs_len Lf.cs_one rfl (.tmp 126) (.tmp 128) rfl (base := W8.heap.size) (v := .slice a12 j c12) (ys := O.take j) (xs := [⟨xs, xc, p3, 0⟩]) H13.out rfl rfl hz13 (by rw [hW13]; exact (by (repeat with_reducible refine Sl.drew ?_); exact Sl.one_new (y := (⟨xs, xc, p3, 0⟩ : Lf)) (by simp; try omega))) (by rw [HTL.out]; simp only [List.length_singleton]; unfold maxLen; omega) (by rw [HTL.out]; simp only [List.length_singleton]; omega) ?_; intro v14 m14 ho14 _; refine gen_w ?_; intro W14 hW14; have C14 : Chg (Value.slice a12 j c12).ownBlock.toList W13 W14 := by rw [hW14]; exact chg_chg _ _ _
                     rw [← hW14] at ho14; have O14 : Hid (∃ e, W14 = over W8 e) := hid (Chg.ov (ov_tr O12.out O13.out) C14 (fun g hg => (Own.lt H13.out (by simpa using hg)).1)); obtain ⟨a14, c14, rfl, _⟩ := Own.slice Lf.cs_len ho14; have hl14 : (O.take j ++ [(⟨xs, xc, p3, 0⟩ : Lf)]).length = j + 1 := by rw [List.length_append, HTL.out]; rfl
                     rw [hl14] at ho14 ⊢; have HL14 := hid hl14; have H14 := hid ho14; clear ho14 hW13 hW14 C14 O13 H13 H12 hz13 hl14 B12' m0 m1 m2 m3 ml O12)
                  | (at_builtin
                     refine gen_w ?_; intro W15 hW15; have O15 : Hid (∃ e, W15 = over W14 e) := hid (by rw [hW15]; exact ovA); have H15 : Hid (OwnLf W8.heap.size W15 (.slice a14 (j + 1) c14) (O.take j ++ [⟨xs, xc, p3, 0⟩])) := hid (by obtain ⟨e, he⟩ := O15.out; rw [he]; exact H14.out.over e); have hz15 : W8.heap.size ≤ W15.heap.size := by obtain ⟨e, he⟩ := ov_tr O14.out O15.out; rw [he]; simp
                     refine wpList_append' leaf_elem Lf.cs_len Lf.cs_one rfl (.tmp 130) (.tmp 133) rfl (base := W8.heap.size) (v := .slice a14 (j + 1) c14) (ys := O.take j ++ [⟨xs, xc, p3, 0⟩]) (xs := O.drop j) H15.out rfl (by rw [HDL.out]; rfl) hz15 (Sl.ov HD9.out (ov_tr O14.out O15.out)) (by rw [HDL.out, HL14.out]; unfold maxLen; omega) (by rw [HDL.out, HL14.out]; omega) ?_; intro v16 m16 ho16 _; refine gen_w ?_; intro W16 hW16; have C16 : Chg (Value.slice a14 (j + 1) c14).ownBlock.toList W15 W16 := by rw [hW16]; exact chg_chg _ _ _
                     rw [← hW16] at ho16; have O16 : Hid (∃ e, W16 = over W8 e) := hid (Chg.ov (ov_tr O14.out O15.out) C16 (fun g hg => (Own.lt H15.out (by simpa using hg)).1)); have H16 := hid ho16; clear ho16 hW15 hW16 C16 O15 H15 H14 hz15 O14))
                go_roundw
                case rel => exact ⟨k + 1, O.take j ++ [⟨xs, xc, p3, 0⟩] ++ O.drop j, by omega, by go_num, by (rw [HTK.out]; have h := HN2.out; rw [← HCN.out] at h; exact h), Own.mono H16.out (by obtain ⟨e, he⟩ := O8.out; rw [he]; simp), by exact ov_tr O8.out O16.out⟩
                case measure => (simp [intOf]; try omega)
            · rw [if_neg (fun h => hcj h.symm)] at hdr; rcases H8.out.2 with hn | ⟨g, cg, cur, hv, _⟩
              · exfalso
                have h1 := hn.1
                injection h1 with v1 v2 v3
                omega
              · injection hv with v1 v2 v3
                subst v1; clear v2 v3 hj2; rw [Option.map_some, Go.WideShapes.add_plain, Nat.zero_add] at hdr; have HD9 := hid hdr; clear hsp htl hdl hsl9 hdr hjl; go_wp2; refine wro (by kernel_rfl) (by kernel_rfl) ?_; repeat (go_big_quiet_step ((fail)))
                refine wpQuiet_nil ?_; intro _ hw'; obtain ⟨nq, rfl⟩ := hw'; go_wp2; refine wro (by kernel_rfl) (by kernel_rfl) ?_; repeat (go_big_quiet_step ((fail)))
                refine wpQuiet_nil ?_; intro _ hw'; obtain ⟨nq, rfl⟩ := hw'
                go_wp2_with (first
                  | (at_builtin
                     refine gen_w ?_; intro W11 hW11; have O11 : Hid (∃ e, W11 = over W8 e) := hid (by rw [hW11]; exact ovA); refine wpList_append' leaf_elem Lf.cs_len Lf.cs_one rfl (.tmp 121) (.tmp 124) rfl (base := W8.heap.size) (v := .slice none 0 0) (ys := []) (xs := O.take j) (Own.nil _) rfl (by rw [HTL.out]; rfl) (by obtain ⟨e, he⟩ := O11.out; rw [he]; simp) (Sl.ov HT9.out O11.out) (by rw [HTL.out]; simp only [List.length_nil]; unfold maxLen; omega) (by rw [HTL.out]; simp only [List.length_nil]; omega) ?_; intro v12 m12 ho12 _; refine gen_w ?_; intro W12 hW12; have C12 : Chg [] W11 W12 := by rw [hW12]; exact chg_chg _ _ _
                     rw [← hW12, List.nil_append] at ho12; have O12 : Hid (∃ e, W12 = over W8 e) := hid (Chg.ov O11.out C12 (by simp)); obtain ⟨a12, c12, rfl, _⟩ := Own.slice Lf.cs_len ho12; rw [HTL.out] at ho12 ⊢; have H12 := hid ho12; have B12' : Hid (Blk W12 t12 [.int .u32 (xs : Nat), .int .u32 (xc : Nat), .int .u32 (p3 : Nat), .int .u64 0] 65) := hid (by obtain ⟨e, he⟩ := O12.out; rw [he]; exact Blk.on B12.out e); have m0 := B12'.out.cell 0 rfl; have m1 := B12'.out.cell 1 rfl; have m2 := B12'.out.cell 2 rfl; have m3 := B12'.out.cell 3 rfl; have ml := B12'.out.lt; clear ho12 hW11 hW12 C12 O11)
                  | (at_builtin
                     refine gen_w ?_; intro W13 hW13; have O13 : Hid (∃ e, W13 = over W12 e) := hid (by rw [hW13]; exact ovA); have H13 : Hid (OwnLf W8.heap.size W13 (.slice a12 j c12) (O.take j)) := hid (by obtain ⟨e, he⟩ := O13.out; rw [he]; exact H12.out.over e); have hz13 : W8.heap.size ≤ W13.heap.size := by obtain ⟨e, he⟩ := ov_tr O12.out O13.out; rw [he]; simp
                     refine wpList_append' leaf_elem Lf.cs_len Lf.cs_one rfl (.tmp 126) (.tmp 128) rfl (base := W8.heap.size) (v := .slice a12 j c12) (ys := O.take j) (xs := [⟨xs, xc, p3, 0⟩]) H13.out rfl rfl hz13 (by rw [hW13]; exact (by (repeat with_reducible refine Sl.drew ?_); exact Sl.one_new (y := (⟨xs, xc, p3, 0⟩ : Lf)) (by simp; try omega))) (by rw [HTL.out]; simp only [List.length_singleton]; unfold maxLen; omega) (by rw [HTL.out]; simp only [List.length_singleton]; omega) ?_; intro v14 m14 ho14 _; refine gen_w ?_; intro W14 hW14; have C14 : Chg (Value.slice a12 j c12).ownBlock.toList W13 W14 := by rw [hW14]; exact chg_chg _ _ _
                     rw [← hW14] at ho14; have O14 : Hid (∃ e, W14 = over W8 e) := hid (Chg.ov (ov_tr O12.out O13.out) C14 (fun g hg => (Own.lt H13.out (by simpa using hg)).1)); obtain ⟨a14, c14, rfl, _⟩ := Own.slice Lf.cs_len ho14; have hl14 : (O.take j ++ [(⟨xs, xc, p3, 0⟩ : Lf)]).length = j + 1 := by rw [List.length_append, HTL.out]; rfl
                     rw [hl14] at ho14 ⊢; have HL14 := hid hl14; have H14 := hid ho14; clear ho14 hW13 hW14 C14 O13 H13 H12 hz13 hl14 B12' m0 m1 m2 m3 ml O12)
                  | (at_builtin
                     refine gen_w ?_; intro W15 hW15; have O15 : Hid (∃ e, W15 = over W14 e) := hid (by rw [hW15]; exact ovA); have H15 : Hid (OwnLf W8.heap.size W15 (.slice a14 (j + 1) c14) (O.take j ++ [⟨xs, xc, p3, 0⟩])) := hid (by obtain ⟨e, he⟩ := O15.out; rw [he]; exact H14.out.over e); have hz15 : W8.heap.size ≤ W15.heap.size := by obtain ⟨e, he⟩ := ov_tr O14.out O15.out; rw [he]; simp
                     refine wpList_append' leaf_elem Lf.cs_len Lf.cs_one rfl (.tmp 130) (.tmp 133) rfl (base := W8.heap.size) (v := .slice a14 (j + 1) c14) (ys := O.take j ++ [⟨xs, xc, p3, 0⟩]) (xs := O.drop j) H15.out rfl (by rw [HDL.out]; rfl) hz15 (Sl.ov HD9.out (ov_tr O14.out O15.out)) (by rw [HDL.out, HL14.out]; unfold maxLen; omega) (by rw [HDL.out, HL14.out]; omega) ?_; intro v16 m16 ho16 _; refine gen_w ?_; intro W16 hW16; have C16 : Chg (Value.slice a14 (j + 1) c14).ownBlock.toList W15 W16 := by rw [hW16]; exact chg_chg _ _ _
                     rw [← hW16] at ho16; have O16 : Hid (∃ e, W16 = over W8 e) := hid (Chg.ov (ov_tr O14.out O15.out) C16 (fun g hg => (Own.lt H15.out (by simpa using hg)).1)); have H16 := hid ho16; clear ho16 hW15 hW16 C16 O15 H15 H14 hz15 O14))
                go_roundw
                case rel => exact ⟨k + 1, O.take j ++ [⟨xs, xc, p3, 0⟩] ++ O.drop j, by omega, by go_num, by (rw [HTK.out]; have h := HN2.out; rw [← HCN.out] at h; exact h), Own.mono H16.out (by obtain ⟨e, he⟩ := O8.out; rw [he]; simp), by exact ov_tr O8.out O16.out⟩
                case measure => (simp [intOf]; try omega)
   · have hap2 : ApO a b (a ++ b) O := by
      have h := hap; rw [List.take_of_length_le (by rw [HN.out]; omega)] at h; exact h
     have he := hap2.eq; have HE := hid he; have hd : decide (k < N) = false := decide_eq_false hlt; clear hap hap2 hown hso he hov; go_wp2; go_ret
     exact ⟨_, rfl, by exact ov_tr O4.out (ovB O5.out), by rw [← HE.out]; exact Own.mono HOW.out (by obtain ⟨e, he⟩ := O4.out; rw [he]; simp)⟩
end
end Go.Proofs.YtnffcckhdedhpaaGreatDoor
