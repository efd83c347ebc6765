import Derived.Test.YtnffcckhdedhpaaGreatDoorKA
import Derived.Test.YtnffcckhdedhpaaGreatDoorHB
import Derived.Test.YtnffcckhdedhpaaGreatDoorGF
import Derived.Test.YtnffcckhdedhpaaGreatDoorGM
namespace Go.Proofs.YtnffcckhdedhpaaGreatDoor
set_option linter.unusedVariables false
set_option linter.unusedSimpArgs false
set_option maxRecDepth 100000
set_option maxHeartbeats 2000000
section
open Go.RowKit
abbrev SortR (R : List (Nat × Sr)) : Prop := R.Pairwise (fun a b => a.1 < b.1)
def rix : List (Nat × Sr) → Nat → Nat
  | [], _ => 0
  | x :: R, id => if x.1 < id then rix R id + 1 else 0
theorem rix_le : ∀ (R : List (Nat × Sr)) (id : Nat), rix R id ≤ R.length
  | [], _ => Nat.le_refl _
  | x :: R, id => by
   unfold rix; split
   · have := rix_le R id; simp; omega
   · simp
theorem rix_lt : ∀ (R : List (Nat × Sr)) (id : Nat) (i : Nat) (h : i < R.length), i < rix R id → R[i].1 < id
  | [], _, _, h, _ => by simp at h
  | x :: R, id, i, h, hi => by
   unfold rix at hi; split at hi
   · rename_i hx
     cases i with
     | zero => exact hx
     | succ i => exact rix_lt R id i (by simpa using h) (by omega)
   · omega
theorem rix_ge : ∀ {R : List (Nat × Sr)}, SortR R → ∀ (id : Nat) (i : Nat) (h : i < R.length), rix R id ≤ i → id ≤ R[i].1
  | [], _, _, _, h, _ => by simp at h
  | x :: R, hs, id, i, h, hi => by
   have h1 := (List.pairwise_cons.1 hs).1; have h2 := (List.pairwise_cons.1 hs).2; unfold rix at hi; split at hi
   · cases i with
      | zero => omega
      | succ i => exact rix_ge h2 id i (by simpa using h) (by omega)
   · rename_i hx
     cases i with
     | zero => simp; omega
     | succ i =>
      have := h1 (R[i]'(by simpa using h)) (List.getElem_mem _); simp; omega
def rthere (R : List (Nat × Sr)) (id : Nat) : Prop := ∃ h : rix R id < R.length, R[rix R id].1 = id
theorem rget_yes {R : List (Nat × Sr)} (hs : SortR R) {id : Nat} (h : rthere R id) : getS R id = (R[rix R id]'h.1).2 := by
 obtain ⟨hl, he⟩ := h; have hnd : (R.map (·.1)).Nodup := by
  rw [List.nodup_iff_pairwise_ne, List.pairwise_map]; exact hs.imp (fun h => by omega)
 have := getS_at hnd hl; rw [he] at this; exact this
theorem rthere_of {R : List (Nat × Sr)} (hs : SortR R) {id : Nat} {x : Nat × Sr} (hx : x ∈ R) (he : x.1 = id) : rthere R id := by
 obtain ⟨i, hi, rfl⟩ := List.getElem_of_mem hx; have h1 : ¬ i < rix R id := fun h => by have := rix_lt R id i hi h; omega
 have hlt : rix R id < R.length := by omega
 refine ⟨hlt, ?_⟩; have h2 := rix_ge hs id (rix R id) hlt (Nat.le_refl _); rcases Nat.lt_or_ge (rix R id) i with h3 | h3
 · have := (List.pairwise_iff_getElem.1 hs) _ _ hlt hi h3; omega
 · have : rix R id = i := by omega
   simp only [this]; exact he
theorem rget_no {R : List (Nat × Sr)} (hs : SortR R) {id : Nat} (h : ¬ rthere R id) : getS R id = Sr.zero :=
 getS_no (fun _ hx he => h (rthere_of hs hx he))
open Classical in
noncomputable def rset (R : List (Nat × Sr)) (id : Nat) (s : Sr) : List (Nat × Sr) :=
 if rthere R id then R.set (rix R id) (id, s) else R.take (rix R id) ++ [(id, s)] ++ R.drop (rix R id)
theorem rset_yes {R : List (Nat × Sr)} {id : Nat} (h : rthere R id) (s : Sr) : rset R id s = R.set (rix R id) (id, s) := if_pos h
theorem rset_no {R : List (Nat × Sr)} {id : Nat} (h : ¬ rthere R id) (s : Sr) : rset R id s = R.take (rix R id) ++ [(id, s)] ++ R.drop (rix R id) := if_neg h
theorem rset_mem {R : List (Nat × Sr)} {id : Nat} {s : Sr} : ∀ x ∈ rset R id s, x = (id, s) ∨ x ∈ R := by
 by_cases h : rthere R id
 · rw [rset_yes h]; intro x hx; rcases List.mem_or_eq_of_mem_set hx with h1 | h1
   · exact .inr h1
   · exact .inl h1
 · rw [rset_no h]; intro x hx; rcases List.mem_append.1 hx with h1 | h1
   · rcases List.mem_append.1 h1 with h2 | h2
     · exact .inr (List.mem_of_mem_take h2)
     · exact .inl (by simpa using h2)
   · exact .inr (List.mem_of_mem_drop h1)
theorem rset_sort {R : List (Nat × Sr)} (hs : SortR R) {id : Nat} {s : Sr} : SortR (rset R id s) := by
 by_cases h : rthere R id
 · rw [rset_yes h]; obtain ⟨hl, he⟩ := h; have e : (R.set (rix R id) (id, s)).map (·.1) = R.map (·.1) := by
    rw [List.map_set]; have : (id, s).1 = (R.map (·.1))[rix R id]'(by simpa using hl) := by simpa using he.symm
    rw [this, List.set_getElem_self]
   have h1 : (R.map (·.1)).Pairwise (· < ·) := List.pairwise_map.2 hs; rw [← e] at h1; exact List.pairwise_map.1 h1
 · rw [rset_no h]; have hle := rix_le R id; refine List.pairwise_append.2 ⟨List.pairwise_append.2 ⟨hs.take, by simp, fun a ha b hb => ?_⟩, hs.drop, fun a ha b hb => ?_⟩
   · rw [List.mem_singleton] at hb; subst hb; obtain ⟨i, hi, rfl⟩ := List.mem_take_iff_getElem.1 ha; exact rix_lt R id i (by omega) (by omega)
   · obtain ⟨j, hj, rfl⟩ := List.mem_drop_iff_getElem.1 hb; have hb2 := rix_ge hs id (rix R id + j) (by omega) (by omega); have hne : R[rix R id + j].1 ≠ id := fun he => h (rthere_of hs (List.getElem_mem _) he); rcases List.mem_append.1 ha with h1 | h1
     · obtain ⟨i, hi, rfl⟩ := List.mem_take_iff_getElem.1 h1; have := rix_lt R id i (by omega) (by omega); show R[i].1 < _
       omega
     · rw [List.mem_singleton] at h1; subst h1; show id < _
       omega
theorem getS_of {R : List (Nat × Sr)} (hs : SortR R) {x : Nat × Sr} (hx : x ∈ R) : getS R x.1 = x.2 := by
 have hnd : (R.map (·.1)).Nodup := by
  rw [List.nodup_iff_pairwise_ne, List.pairwise_map]; exact hs.imp (fun h => by omega)
 obtain ⟨i, hi, rfl⟩ := List.getElem_of_mem hx; exact getS_at hnd hi
theorem rset_in {R : List (Nat × Sr)} {id : Nat} {s : Sr} : (id, s) ∈ rset R id s := by
 by_cases h : rthere R id
 · rw [rset_yes h]; exact List.mem_set h.1 _
 · rw [rset_no h]; simp
theorem rset_keep {R : List (Nat × Sr)} {id : Nat} {s : Sr} {x : Nat × Sr} (hx : x ∈ R) (hne : x.1 ≠ id) : x ∈ rset R id s := by
 by_cases h : rthere R id
 · rw [rset_yes h]; obtain ⟨i, hi, rfl⟩ := List.getElem_of_mem hx; have : i ≠ rix R id := fun e => by subst e; exact hne h.2
   rw [List.mem_iff_getElem]; exact ⟨i, by simpa using hi, by rw [List.getElem_set, if_neg (fun e => this e.symm)]⟩
 · rw [rset_no h]; have := hx; rw [← List.take_append_drop (rix R id) R] at this; rcases List.mem_append.1 this with h1 | h1
   · simp [h1]
   · simp [h1]
theorem rset_get {R : List (Nat × Sr)} (hs : SortR R) {id : Nat} {s : Sr} : getS (rset R id s) id = s := getS_of (rset_sort hs) (x := (id, s)) rset_in
theorem rset_other {R : List (Nat × Sr)} (hs : SortR R) {id j : Nat} {s : Sr} (hj : j ≠ id) : getS (rset R id s) j = getS R j := by
 by_cases h : ∃ x ∈ R, x.1 = j
 · obtain ⟨x, hx, rfl⟩ := h; rw [getS_of hs hx]; exact getS_of (rset_sort hs) (rset_keep hx hj)
 · rw [getS_no (S := R) (fun x hx he => h ⟨x, hx, he⟩)]; refine getS_no (fun x hx he => ?_); rcases rset_mem x hx with rfl | h1
   · exact hj he.symm
   · exact h ⟨x, h1, he⟩
def putL (sz : Nat) (l : List Sm) : Sr := l.foldl (fun s x => s.put sz x) Sr.zero
theorem putL_snoc (sz : Nat) (l : List Sm) (x : Sm) : putL sz (l ++ [x]) = (putL sz l).put sz x := by unfold putL; rw [List.foldl_append]; rfl
theorem putL_all' (sz : Nat) : ∀ (l : List Sm) (s : Sr), (l.foldl (fun s x => s.put sz x) s).all = s.all ++ l
  | [], s => by simp
  | x :: l, s => by
   rw [List.foldl_cons, putL_all' sz l, put_all, List.append_assoc]; rfl
theorem putL_all (sz : Nat) (l : List Sm) : (putL sz l).all = l := by
 unfold putL; rw [putL_all']; rfl
theorem lay_put {sz : Nat} (l : List (Nat × Sm)) : ∀ x ∈ layS sz l, x.2 = putL sz x.2.all :=
 layS_ind (P := fun s => s = putL sz s.all) rfl (fun s x h _ => by rw [put_all, putL_snoc, ← h]) l
structure RB (S R : List (Nat × Sr)) (i : Nat) (cur : List Nat) : Prop where
 sort : SortR R
 ids : ∀ x ∈ R, (∃ j, ∃ h : j < S.length, j < i ∧ x.1 = S[j].1) ∨ x.1 ∈ cur
 get : ∀ j, ∀ h : j < S.length, j < i → getS R S[j].1 = S[j].2
theorem RB.nil (S : List (Nat × Sr)) : RB S [] 0 [] := ⟨List.Pairwise.nil, by simp, fun _ _ h => by omega⟩
theorem RB.weak {S R : List (Nat × Sr)} {i : Nat} (h : RB S R i []) (cur : List Nat) : RB S R i cur := ⟨h.sort, fun x hx => .inl ((h.ids x hx).resolve_right (by simp)), h.get⟩
theorem nodup_ne {S : List (Nat × Sr)} (hn : (S.map (·.1)).Nodup) {i j : Nat} (hi : i < S.length) (hj : j < S.length) (h : j < i) : S[j].1 ≠ S[i].1 := by
 have := (List.pairwise_iff_getElem.1 hn) j i (by simpa using hj) (by simpa using hi) h
 simpa using this
theorem RB.put {S R : List (Nat × Sr)} (hn : (S.map (·.1)).Nodup) {i : Nat} (hi : i < S.length) (h : RB S R i [S[i].1]) (s : Sr) : RB S (rset R S[i].1 s) i [S[i].1] := by
 refine ⟨rset_sort h.sort, fun x hx => ?_, fun j hj hji => ?_⟩
 · rcases rset_mem x hx with rfl | h1
   · right; simp
   · exact h.ids x h1
 · rw [rset_other h.sort (nodup_ne hn hi hj hji)]; exact h.get j hj hji
theorem RB.next {S R : List (Nat × Sr)} {i : Nat} (hi : i < S.length) (h : RB S R i [S[i].1]) (hg : getS R S[i].1 = S[i].2) : RB S R (i + 1) [] := by
 refine ⟨h.sort, fun x hx => .inl ?_, fun j hj hji => ?_⟩
 · rcases h.ids x hx with ⟨j, hj, h1, h2⟩ | h1
   · exact ⟨j, hj, by omega, h2⟩
   · simp at h1; exact ⟨i, hi, by omega, h1⟩
 · rcases Nat.lt_or_ge j i with h1 | h1
   · exact h.get j hj h1
   · have : j = i := by omega
     subst this; exact hg
theorem RB.zero {S R : List (Nat × Sr)} (hn : (S.map (·.1)).Nodup) {i : Nat} (hi : i < S.length) (h : RB S R i []) : getS R S[i].1 = Sr.zero := by
 refine getS_no (fun x hx he => ?_); rcases h.ids x hx with ⟨j, hj, h1, h2⟩ | h1
 · exact nodup_ne hn hi hj h1 (by rw [← h2]; exact he)
 · simp at h1
theorem sub_len : ∀ (l m : List Nat), l.Nodup → (∀ i ∈ l, i ∈ m) → l.length ≤ m.length
  | [], m, _, _ => Nat.zero_le _
  | a :: l, m, hn, h => by
   have ha : a ∈ m := h a (by simp); have hn' := List.nodup_cons.1 hn; have ih := sub_len l (m.erase a) hn'.2 (fun i hi => (List.mem_erase_of_ne (by rintro rfl; exact hn'.1 hi)).2 (h i (by simp [hi]))); rw [List.length_erase_of_mem ha] at ih; have : 0 < m.length := List.length_pos_of_mem ha; simp; omega
theorem RB.len {S R : List (Nat × Sr)} {i : Nat} {cur : List Nat} (h : RB S R i cur) (hi : i ≤ S.length) : R.length ≤ i + cur.length := by
 have hnd : (R.map (·.1)).Nodup := by
  rw [List.nodup_iff_pairwise_ne, List.pairwise_map]; exact h.sort.imp (fun h => by omega)
 have hsub : ∀ j ∈ R.map (·.1), j ∈ ((S.take i).map (·.1)) ++ cur := by
  intro j hj; obtain ⟨x, hx, rfl⟩ := List.mem_map.1 hj; rcases h.ids x hx with ⟨j, hj, hjk, he⟩ | hc
  · refine List.mem_append_left _ (List.mem_map.2 ⟨S[j], ?_, he.symm⟩); rw [List.mem_take_iff_getElem]; exact ⟨j, by omega, rfl⟩
  · exact List.mem_append_right _ hc
 have := sub_len _ _ hnd hsub; simp at this; omega
theorem RB.all {S R : List (Nat × Sr)} (hn : (S.map (·.1)).Nodup) {i : Nat} (hi : i = S.length) (h : RB S R i []) (id : Nat) : getS R id = getS S id := by
 by_cases hx : ∃ j, ∃ hj : j < S.length, S[j].1 = id
 · obtain ⟨j, hj, rfl⟩ := hx; rw [h.get j hj (by omega), getS_at hn hj]
 · rw [getS_no (S := S) (fun x hxm he => ?_), getS_no (S := R) (fun x hxm he => ?_)]
   · rcases h.ids x hxm with ⟨j, hj, _, h2⟩ | h1
     · exact hx ⟨j, hj, by rw [← h2]; exact he⟩
     · simp at h1
   · obtain ⟨j, hj, rfl⟩ := List.getElem_of_mem hxm; exact hx ⟨j, hj, he⟩
end
section
open Go.RowKit
structure Rc where
 a : Option Addr
 c : Nat
 l : List Sm
 cl : Bool
instance : Inhabited Rc := ⟨⟨none, 0, [], false⟩⟩
def Rc.cs (x : Rc) : List Value := [.slice x.a x.l.length x.c, .bool x.cl]
theorem Rc.cs_len (x : Rc) : x.cs.length = 2 := rfl
theorem Rc.cs_one (x : Rc) : ∀ u ∈ x.cs, u.oneCell' = true := by intro u hu; simp [Rc.cs] at hu; rcases hu with rfl | rfl <;> rfl
theorem rc_elem : ElemOf Tryz.prog 71 74 2 32 := elemOf (z := .agg #[.slice none 0 0, .bool false]) (by kernel_rfl) (by kernel_rfl) rfl (by decide)
structure Rr where
 id : Nat
 a : Option Addr
 c : Nat
 k : List Rc
instance : Inhabited Rr := ⟨⟨0, none, 0, []⟩⟩
def Rr.cs (x : Rr) : List Value := [.int .u32 (x.id : Nat), .slice x.a x.k.length x.c]
theorem Rr.cs_len (x : Rr) : x.cs.length = 2 := rfl
theorem Rr.cs_one (x : Rr) : ∀ u ∈ x.cs, u.oneCell' = true := by intro u hu; simp [Rr.cs] at hu; rcases hu with rfl | rfl <;> rfl
theorem rr_elem : ElemOf Tryz.prog 68 134 2 32 := elemOf (z := .agg #[.int .u32 0, .slice none 0 0]) (by kernel_rfl) (by kernel_rfl) rfl (by decide)
structure CkAt (F : List Nat) (w : World) (a : Option Addr) (c : Nat) (k : List Rc) : Prop where
 row : Sl 2 Rc.cs w a c k
 rows : ∀ x ∈ k, SlM w x.a x.c x.l
 ap : ∀ b ∈ blk? a ++ k.flatMap (fun x => blk? x.a), b < w.heap.size ∧ b ∉ F
theorem blk_mem {a : Option Addr} {ad : Addr} (h : a = some ad) : ad.block ∈ blk? a := by subst h; simp [blk?]
theorem CkAt.chg {F : List Nat} {w w' : World} {a : Option Addr} {c : Nat} {k : List Rc} (h : CkAt F w a c k) (hc : Chg F w w') : CkAt F w' a c k :=
 ⟨Sl.chg h.row hc (fun ad ha => (h.ap _ (List.mem_append_left _ (blk_mem ha))).2),
  fun x hx => Sl.chg (h.rows x hx) hc (fun ad ha => (h.ap _ (List.mem_append_right _ (List.mem_flatMap.2 ⟨x, hx, blk_mem ha⟩))).2),
  fun b hb => ⟨Nat.lt_of_lt_of_le (h.ap b hb).1 hc.size, (h.ap b hb).2⟩⟩
theorem CkAt.to {F G : List Nat} {w : World} {a : Option Addr} {c : Nat} {k : List Rc} (h : CkAt F w a c k) (hG : ∀ b ∈ G, b ∈ F ∨ w.heap.size ≤ b) : CkAt G w a c k :=
 ⟨h.row, h.rows, fun b hb => ⟨(h.ap b hb).1, fun hg => by
  rcases hG b hg with h1 | h1
  · exact (h.ap b hb).2 h1
  · have := (h.ap b hb).1; omega⟩⟩
def ckOf (s : Sr) : List (List Sm × Bool) := s.cl.map (fun c => (c, true)) ++ [(s.op, false)]
def Rc.p (x : Rc) : List Sm × Bool := (x.l, x.cl)
theorem ckOf_len (s : Sr) : (ckOf s).length = s.cl.length + 1 := by simp [ckOf]
theorem ckOf_flat (s : Sr) : ((ckOf s).map (·.1)).flatten = s.all := by
 unfold ckOf Sr.all; have e : ∀ l : List (List Sm), (l.map (fun c => (c, true))).map (·.1) = l := fun l => by rw [List.map_map]; exact List.map_id l
 rw [List.map_append, e]; simp
structure RbAt (base : Nat) (w : World) (p sz : Nat) (v : Value) (rs : List Rr) (R : List (Nat × Sr)) : Prop where
 blk : Blk w p [.int .i64 64, .int .i64 (sz : Nat), v] 70
 row : Own base 134 2 Rr.cs w v rs
 ne : v.ownBlock ≠ some p
 lo : base ≤ p
 ser : ∀ r ∈ rs, CkAt (p :: v.ownBlock.toList) w r.a r.c r.k
 is_ : rs.map (fun r => (r.id, r.k.map Rc.p)) = R.map (fun x => (x.1, ckOf x.2))
 sort : SortR R
theorem RbAt.len {base : Nat} {w : World} {p sz : Nat} {v : Value} {rs : List Rr} {R : List (Nat × Sr)} (h : RbAt base w p sz v rs R) : rs.length = R.length := by
 have := congrArg List.length h.is_
 simpa using this
theorem RbAt.at_ {base : Nat} {w : World} {p sz : Nat} {v : Value} {rs : List Rr} {R : List (Nat × Sr)} (h : RbAt base w p sz v rs R) {i : Nat} (hi : i < rs.length) : ∃ h2 : i < R.length, rs[i].id = R[i].1 ∧ rs[i].k.map Rc.p = ckOf R[i].2 := by
 have hl := h.len; have h2 : i < R.length := by omega
 have h3 := congrArg (fun l => l[i]?) h.is_; simp [List.getElem?_eq_getElem hi, List.getElem?_eq_getElem h2] at h3; exact ⟨h2, h3.1, h3.2⟩
theorem RbAt.ov {base : Nat} {w w' : World} {p sz : Nat} {v : Value} {rs : List Rr} {R : List (Nat × Sr)} (h : RbAt base w p sz v rs R) (ho : ∃ e, w' = over w e) : RbAt base w' p sz v rs R := by
 obtain ⟨e, rfl⟩ := ho; have hc : Chg [] w (over w e) := (Chg.refl [] w).on e; exact ⟨Blk.on h.blk e, Own.over h.row e, h.ne, h.lo, fun r hr => CkAt.chg (h.ser r hr) (Chg.mono hc (by simp)), h.is_, h.sort⟩
theorem RbAt.cell {base : Nat} {w : World} {p sz : Nat} {v : Value} {rs : List Rr} {R : List (Nat × Sr)} (h : RbAt base w p sz v rs R) {i : Nat} (hi : i < rs.length) :
    ∃ g cap, v = .slice (some ⟨g, 0, none⟩) rs.length cap ∧ g < w.heap.size ∧ w.cell? ⟨g, i * 2, none⟩ = some (.int .u32 (rs[i].id : Nat)) ∧ w.cell? ⟨g, i * 2 + 1, none⟩ = some (.slice rs[i].a rs[i].k.length rs[i].c) ∧ w.frozen? ⟨g, i * 2 + 1, none⟩ = false := by
  obtain ⟨g, cap, rfl, hb, hg, hcell, hfr⟩ := Own.open_ Rr.cs_len h.row (by omega); exact ⟨g, cap, rfl, hg, hcell i _ (List.getElem?_eq_getElem hi) 0 _ rfl, hcell i _ (List.getElem?_eq_getElem hi) 1 _ rfl, hfr _⟩
theorem RbAt.put {base : Nat} {w : World} {p sz : Nat} {g n cap : Nat} {rs : List Rr} {R : List (Nat × Sr)} (h : RbAt base w p sz (.slice (some ⟨g, 0, none⟩) n cap) rs R) {i : Nat} (hi : i < rs.length) {a : Option Addr} {c : Nat} {k : List Rc} {s : Sr}
    (hk : CkAt [p, g] w a c k) (hs : k.map Rc.p = ckOf s) (id : Nat) (hid : rs[i].id = id) :
    RbAt base (w.setCell ⟨g, i * 2 + 1, none⟩ (.slice a k.length c)) p sz (.slice (some ⟨g, 0, none⟩) n cap) (rs.set i ⟨rs[i].id, a, c, k⟩) (R.set i (id, s)) := by
  obtain ⟨h2, h3, h4⟩ := h.at_ hi; have hob : (Value.slice (some ⟨g, 0, none⟩) n cap).ownBlock = some g := rfl; have hpg : p ≠ g := fun e => h.ne (by rw [hob, e]); have hcs : Chg [p, g] w (w.setCell ⟨g, i * 2 + 1, none⟩ (.slice a k.length c)) := Chg.setCell (Chg.refl _ _) (.inl (by simp)) _; refine ⟨Blk.set_ne h.blk hpg _, Own.set_ Rr.cs_len h.row hi ⟨rs[i].id, a, c, k⟩ 1 _ rfl (by decide), h.ne, h.lo, fun r hr => ?_, ?_, ?_⟩
  · rcases List.mem_or_eq_of_mem_set hr with hr | rfl
    · exact CkAt.chg (h.ser r hr) hcs
    · exact CkAt.chg hk hcs
  · rw [List.map_set, List.map_set, h.is_]; simp only [hs, hid]
  · have e : (R.set i (id, s)).map (·.1) = R.map (·.1) := by
     rw [List.map_set]; have : (id, s).1 = (R.map (·.1))[i]'(by simpa using h2) := by simp [← hid, h3]
     rw [this, List.set_getElem_self]
    have h1 : (R.map (·.1)).Pairwise (· < ·) := List.pairwise_map.2 h.sort; rw [← e] at h1; exact List.pairwise_map.1 h1
theorem RbAt.new {base : Nat} {w w2 : World} {p sz : Nat} {v v' : Value} {rs rs' : List Rr} {R R' : List (Nat × Sr)} (h : RbAt base w p sz v rs R) (ho : ∃ e, w2 = over w e) (hr : Own w.heap.size 134 2 Rr.cs w2 v' rs')
    (hs : ∀ r ∈ rs', CkAt (p :: v.ownBlock.toList) w r.a r.c r.k) (he : rs'.map (fun r => (r.id, r.k.map Rc.p)) = R'.map (fun x => (x.1, ckOf x.2))) (hso : SortR R') (hbw : base ≤ w.heap.size) :
    RbAt base (w2.setCell ⟨p, 2, none⟩ v') p sz v' rs' R' := by
  have hpl := h.blk.lt; obtain ⟨e, rfl⟩ := ho; have hv : ∀ g, v'.ownBlock = some g → w.heap.size ≤ g := fun g hg => (Own.lt hr hg).1; have hne : v'.ownBlock ≠ some p := fun hp => by have := hv p hp; omega
  have hcs : Chg (p :: v.ownBlock.toList) w ((over w e).setCell ⟨p, 2, none⟩ v') := Chg.setCell ((Chg.refl _ _).on e) (.inl (by simp)) _; refine ⟨?_, Own.mono (Own.set_ne hr hne _) hbw, hne, h.lo, fun r hr2 => ?_, he, hso⟩
  · exact Blk.set (Blk.on h.blk e) 2 v'
  · have h1 := CkAt.to (G := p :: (v.ownBlock.toList ++ v'.ownBlock.toList)) (hs r hr2) (fun b hb => by
     simp at hb; rcases hb with hb | hb | hb
     · left; simp [hb]
     · left; simp [hb]
     · exact .inr (hv b hb))
    have h2 := CkAt.chg h1 (Chg.mono hcs (fun b hb => by simp at hb ⊢; rcases hb with hb | hb <;> simp [hb]))
    exact CkAt.to h2 (fun b hb => by simp at hb ⊢; rcases hb with hb | hb <;> simp [hb])
def rthB (R : List (Nat × Sr)) (id : Nat) : Bool := match R[rix R id]? with
 | some x => x.1 == id
 | none => false
theorem rthB_iff {R : List (Nat × Sr)} {id : Nat} : rthB R id = true ↔ rthere R id := by
 unfold rthB rthere; rcases Nat.lt_or_ge (rix R id) R.length with h | h
 · rw [List.getElem?_eq_getElem h]; simp; exact ⟨fun e => ⟨h, e⟩, fun ⟨_, e⟩ => e⟩
 · rw [List.getElem?_eq_none h]; simp; intro h2; omega
end
section
open Go.RowKit
attribute [local go_sem] odr cdr
theorem rnewb_any (sz : Nat) (hs : 1 ≤ sz ∧ sz ≤ 24) (w : World) : Calls Tryz.prog 7 #[.int .i64 64, .int .i64 (sz : Nat)] w fun en w' => ∃ p, en = .returned (.pointer (some ⟨p, 0, none⟩)) ∧ (∃ e, w' = over w e) ∧ RbAt w.heap.size w' p sz (.slice none 0 0) [] [] := by
 go_enter Tryz.func7, Tryz.ntmps7; go_wp2_with fail
 go_ret
 exact ⟨w.heap.size, rfl, ovA, Blk.new' (by simp), Own.nil _, by simp [Value.ownBlock], Nat.le_refl _, by simp, rfl, List.Pairwise.nil⟩
theorem rfind_any {base : Nat} {w : World} {p sz : Nat} {v : Value} {rs : List Rr} {R : List (Nat × Sr)} (h : RbAt base w p sz v rs R) (hlen : rs.length ≤ 1000000) (id : Nat) :
    Calls Tryz.prog 56 #[.pointer (some ⟨p, 0, none⟩), .int .u32 (id : Nat)] w (Ret w (.tuple #[.int .i64 (rix R id : Nat), .bool (rthB R id)])) := by
  have hp2 := h.blk.cell 2 rfl; have hpl := h.blk.lt; have hl := h.len; have hri := rix_le R id; obtain ⟨av, cv, hv, _⟩ := Own.slice Rr.cs_len h.row; subst hv; have HR := hid h; obtain ⟨r, hr⟩ : ∃ r, rix R id = r := ⟨_, rfl⟩; obtain ⟨B, hB⟩ : ∃ B, rthB R id = B := ⟨_, rfl⟩; rw [hr] at hri ⊢; rw [hB]; have HRI := hid hr; have HB := hid hB; clear h hr hB
  go_enter Tryz.func56, Tryz.ntmps56; go_wp2
  go_loopw [6] (fun i wr => ∃ k : Nat, k ≤ r ∧ i = .int .i64 (k : Nat) ∧ Ov w wr) (fun i _ => rs.length - (intOf i).toNat)
  case atStart => exact ⟨0, Nat.zero_le _, rfl, ovA⟩
  case round =>
   obtain ⟨k, hk, rfl, ⟨e0, rfl⟩⟩ := hrel; by_cases hkl : k < rs.length
   · obtain ⟨g, cap, hv, hg, c0, c1, _⟩ := HR.out.cell hkl; obtain ⟨ha, _, hc⟩ := Value.slice.inj hv; subst ha hc; clear hv; obtain ⟨h2, h3, h4⟩ := HR.out.at_ hkl; obtain ⟨j, hj⟩ : ∃ j, rs[k].id = j := ⟨_, rfl⟩; rw [hj] at c0 h3; have hd0 : decide (k < rs.length) = true := decide_eq_true hkl; by_cases hkr : k < r
     · have hlt : j < id := by rw [h3]; exact rix_lt R id k h2 (by rw [HRI.out]; exact hkr)
       have hd1 : decide (j < id) = true := decide_eq_true hlt; clear h3 h4 c1 hj; go_wp2; go_roundw
       case rel => exact ⟨k + 1, by omega, by go_num, ovA⟩
       case measure => (simp [intOf]; try omega)
     · obtain rfl : k = r := by omega
       have hge : ¬ j < id := by
        rw [h3]; have := rix_ge HR.out.sort id k h2 (by rw [HRI.out]; exact Nat.le_refl _); omega
       have hd1 : decide (j < id) = false := decide_eq_false hge; have hb : B = (j == id) := by
        rw [← HB.out]; unfold rthB; rw [HRI.out, List.getElem?_eq_getElem h2, h3]
       have hb2 : ((j : Int) == (id : Int)) = B := by
        rw [hb]; rw [Bool.eq_iff_iff]; simp; omega
       clear h3 h4 c1 hj hb; go_wp2; refine wro (by kernel_rfl) (by kernel_rfl) ?_; repeat (go_big_quiet_step ((fail)))
       refine wpQuiet_nil ?_; intro _ hw'; obtain ⟨nq, rfl⟩ := hw'; go_wp2; go_ret2
       exact ⟨ovA, rfl⟩
   · have hd0 : decide (k < rs.length) = false := decide_eq_false hkl; obtain rfl : k = r := by omega
     have hb : B = false := by
      rw [← HB.out]; unfold rthB; rw [HRI.out, List.getElem?_eq_none (by omega)]
     subst hb; go_wp2; refine wro (by kernel_rfl) (by kernel_rfl) ?_; repeat (go_big_quiet_step ((fail)))
     refine wpQuiet_nil ?_; intro _ hw'; obtain ⟨nq, rfl⟩ := hw'; go_wp2; go_ret2
     exact ⟨ovA, rfl⟩
theorem rfull_any {base : Nat} {w : World} {p sz : Nat} {v : Value} {rs : List Rr} {R : List (Nat × Sr)} (h : RbAt base w p sz v rs R) (id : Nat) (hlen : rs.length < 64 ∨ rthere R id) (hlen2 : rs.length ≤ 1000000) :
    Calls Tryz.prog 54 #[.pointer (some ⟨p, 0, none⟩), .int .u32 (id : Nat)] w (Ret w (.bool false)) := by
  have HF := hid (fun W (hW : ∃ e, W = over w e) => rfind_any (RbAt.ov h hW) hlen2 id); have hp2 := h.blk.cell 2 rfl; have hp0 := h.blk.cell 0 rfl; have hpl := h.blk.lt; obtain ⟨av, cv, hv, _⟩ := Own.slice Rr.cs_len h.row; subst hv; obtain ⟨r, hr⟩ : ∃ r, rix R id = r := ⟨_, rfl⟩; rw [hr] at HF; by_cases ht : rthere R id
  · have hb := rthB_iff.2 ht; rw [hb] at HF; clear h hr ht hb hlen
    go_enter Tryz.func54, Tryz.ntmps54; go_wp2_with (go_at_call 56; (with_reducible refine (HF.out _ ovA).mono ?_); rintro _ _ ⟨⟨e1, rfl⟩, rfl⟩)
    refine wro (by kernel_rfl) (by kernel_rfl) ?_; repeat (go_big_quiet_step ((fail)))
    refine wpQuiet_nil ?_; intro _ hw'; obtain ⟨nq, rfl⟩ := hw'; go_wp2; go_ret
    exact ⟨ovA, rfl⟩
  · have hb : rthB R id = false := by
     cases hq : rthB R id with
     | false => rfl
     | true => exact absurd (rthB_iff.1 hq) ht
    have hl := hlen.resolve_right ht; have hd : decide (64 ≤ rs.length) = false := decide_eq_false (by omega); have hd2 : decide ((64 : Int) ≤ (rs.length : Int)) = false := decide_eq_false (by omega); rw [hb] at HF; clear h hr ht hb hlen
    go_enter Tryz.func54, Tryz.ntmps54; go_wp2_with (go_at_call 56; (with_reducible refine (HF.out _ ovA).mono ?_); rintro _ _ ⟨⟨e1, rfl⟩, rfl⟩)
    refine wro (by kernel_rfl) (by kernel_rfl) ?_; repeat (go_big_quiet_step ((fail)))
    refine wpQuiet_nil ?_; intro _ hw'; obtain ⟨nq, rfl⟩ := hw'; go_wp2; go_ret
    exact ⟨ovA, rfl⟩
theorem rchunks_any {base : Nat} {w : World} {p sz : Nat} {v : Value} {rs : List Rr} {R : List (Nat × Sr)} (h : RbAt base w p sz v rs R) (id : Nat) (hlen2 : rs.length ≤ 1000000) :
    Calls Tryz.prog 25 #[.pointer (some ⟨p, 0, none⟩), .int .u32 (id : Nat)] w fun en w' => (∃ e, w' = over w e) ∧ ∃ a c k, en = .returned (.slice a (k : List Rc).length c) ∧ CkAt (p :: v.ownBlock.toList) w' a c k ∧ k.map Rc.p = ckOf (getS R id) := by
  have HF := hid (fun W (hW : ∃ e, W = over w e) => rfind_any (RbAt.ov h hW) hlen2 id); have hp2 := h.blk.cell 2 rfl; have hpl := h.blk.lt; have HR := hid h; by_cases ht : rthere R id
  · have hb := rthB_iff.2 ht; rw [hb] at HF; have hg := rget_yes h.sort ht; obtain ⟨h1, h2⟩ := ht; have hl := h.len; have h3 : rix R id < rs.length := by omega
    obtain ⟨g, cap, hv, hgl, c0, c1, _⟩ := h.cell h3; obtain ⟨_, h4, h5⟩ := h.at_ h3; have hser := h.ser _ (List.getElem_mem h3); subst hv; rw [hg]; obtain ⟨s, hs⟩ : ∃ s, (R[rix R id]'h1).2 = s := ⟨_, rfl⟩; rw [hs] at h5 ⊢; obtain ⟨x, hx⟩ : ∃ x, rs[rix R id]'h3 = x := ⟨_, rfl⟩; rw [hx] at c1 h5 hser; have HS := hid hser; have H5 := hid h5; obtain ⟨r, hr⟩ : ∃ r, rix R id = r := ⟨_, rfl⟩; rw [hr] at HF c1 h3; have hd : decide (r < rs.length) = true := decide_eq_true h3; clear h hb hg hs h2 h4 h5 hser hx hr c0 HR
    go_enter Tryz.func25, Tryz.ntmps25; go_wp2_with (go_at_call 56; (with_reducible refine (HF.out _ ovA).mono ?_); rintro _ _ ⟨⟨e1, rfl⟩, rfl⟩)
    go_ret
    exact ⟨ovA, x.a, x.c, x.k, rfl, CkAt.chg HS.out ((Chg.refl _ _).on _), H5.out⟩
  · have hb : rthB R id = false := by
     cases hq : rthB R id with
     | false => rfl
     | true => exact absurd (rthB_iff.1 hq) ht
    rw [hb] at HF; rw [rget_no h.sort ht]; obtain ⟨r, hr⟩ : ∃ r, rix R id = r := ⟨_, rfl⟩; rw [hr] at HF; have hvl : ∀ g, v.ownBlock = some g → g < w.heap.size := fun g hg => (Own.lt h.row hg).2; clear h hb ht hr
    go_enter Tryz.func25, Tryz.ntmps25; go_wp2_with (go_at_call 56; (with_reducible refine (HF.out _ ovA).mono ?_); rintro _ _ ⟨⟨e1, rfl⟩, rfl⟩)
    go_ret
    refine ⟨ovA, some ⟨w.heap.size + e1.heap.size, 0, none⟩, 1, [⟨none, 0, [], false⟩], rfl, ⟨(by (repeat with_reducible refine Sl.drew ?_); exact Sl.one_new (y := (⟨none, 0, [], false⟩ : Rc)) (by simp; try omega)), ?_, ?_⟩, rfl⟩
    · intro x hx; simp at hx; subst hx; exact Sl.nil _
    · intro b hb; simp [blk?] at hb; subst hb; refine ⟨by simp, fun hm => ?_⟩; rcases List.mem_cons.1 hm with hm | hm
      · omega
      · have := hvl _ (by simpa using hm); omega
end
section
open Go.RowKit
attribute [local go_sem] odr cdr
theorem ck_flat {k : List Rc} {s : Sr} (h : k.map Rc.p = ckOf s) : (k.map (·.l)).flatten = s.all := by
 have := congrArg (fun l => (l.map (·.1)).flatten) h; simp only [ckOf_flat] at this; rw [← this, List.map_map]; rfl
theorem rcflat_take {k : List Rc} {j : Nat} (hj : j < k.length) : ((k.take (j + 1)).map (·.l)).flatten = ((k.take j).map (·.l)).flatten ++ k[j].l := by
 rw [List.take_succ_eq_append_getElem hj, List.map_append, List.flatten_append]; simp
theorem rcflat_le (k : List Rc) (j : Nat) : ((k.take j).map (·.l)).flatten.length ≤ (k.map (·.l)).flatten.length := by
 conv => rhs; rw [← List.take_append_drop j k, List.map_append, List.flatten_append, List.length_append]
 omega
theorem SlC.at_ {w : World} {a : Option Addr} {cap : Nat} {xs : List Rc} (h : Sl 2 Rc.cs w a cap xs) {k : Nat} (hk : k < xs.length) :
    ∃ b off, a = some ⟨b, off, none⟩ ∧ b < w.heap.size ∧ w.cell? ⟨b, off + k * 2, none⟩ = some (.slice xs[k].a xs[k].l.length xs[k].c) ∧ w.cell? ⟨b, off + k * 2 + 1, none⟩ = some (.bool xs[k].cl) := by
  obtain ⟨b, off, rfl, hb, hcell⟩ := h.rec_ k xs[k] (List.getElem?_eq_getElem hk); have h0 := hcell 0 _ rfl; rw [Nat.add_zero] at h0; exact ⟨b, off, rfl, hb, h0, hcell 1 _ rfl⟩
theorem rsamples_any {base : Nat} {w : World} {p sz : Nat} {v : Value} {rs : List Rr} {R : List (Nat × Sr)} (h : RbAt base w p sz v rs R) (id : Nat) (hlen2 : rs.length ≤ 1000000) {s : Sr} (hs : getS R id = s) (hall : s.all.length ≤ 100000) (hcl : s.cl.length ≤ 100000) :
    Calls Tryz.prog 55 #[.pointer (some ⟨p, 0, none⟩), .int .u32 (id : Nat)] w (Gives w fun v w' => OwnM w.heap.size w' v s.all) := by
  have HC := hid (fun W (hW : ∃ e, W = over w e) => rchunks_any (RbAt.ov h hW) id hlen2); rw [hs] at HC; clear h hs
  go_enter Tryz.func55, Tryz.ntmps55
  go_wp2_with (
    (go_at_call 25)
    (with_reducible refine (HC.out _ ovA).mono ?_)
    rintro _ w1 ⟨⟨e1, hw1⟩, ca, cc, ck, rfl, hck, hcs⟩; have O1 : Hid (∃ e, w1 = over w e) := hid (by rw [hw1]; exact ovA); have HK := hid hck; have HCS := hid hcs; have hkl : ck.length = s.cl.length + 1 := by have := congrArg List.length hcs; rw [List.length_map, ckOf_len] at this; exact this
    have hkl2 : ck.length ≤ 100001 := by omega
    clear hw1 hck hcs hkl)
  go_loopw [5, 7] (fun v i wr => ∃ k : Nat, k ≤ ck.length ∧ i = .int .i64 (k : Nat) ∧ OwnM w1.heap.size wr v ((ck.take k).map (·.l)).flatten ∧ Ov w1 wr) (fun _ i _ => ck.length - (intOf i).toNat)
  case atStart => exact ⟨0, Nat.zero_le _, rfl, Own.nil _, ovA⟩
  case round =>
   obtain ⟨k, hk, rfl, hown, ⟨e0, rfl⟩⟩ := hrel; obtain ⟨av, cv, rfl, _⟩ := Own.slice Sm.cs_len hown; have HOW := hid hown; by_cases hlt : k < ck.length
   · have hfl := rcflat_le ck (k + 1); rw [ck_flat HCS.out, rcflat_take hlt, List.length_append] at hfl; have htk := rcflat_take hlt; have hrow := HK.out.rows _ (List.getElem_mem hlt); obtain ⟨cb, co, rfl, hcb, q0, q1⟩ := SlC.at_ HK.out.row hlt; obtain ⟨x, hx⟩ : ∃ x, ck[k]'hlt = x := ⟨_, rfl⟩; rw [hx] at hrow hfl q0 htk; have SR := hid hrow; have HTK := hid htk; obtain ⟨pre, hpre⟩ : ∃ p, ((ck.take k).map (·.l)).flatten = p := ⟨_, rfl⟩; rw [hpre] at hown HOW hfl HTK ⊢; have hd : decide (k < ck.length) = true := decide_eq_true hlt; clear q1 hx hrow htk hown hpre
     go_wp2_with (
          at_builtin
          refine wpList_append sample_elem Sm.cs_len Sm.cs_one rfl (.tmp 17) (.tmp 22) rfl (w1 := over w1 e0) (B := w1) (base := w1.heap.size) (ys := pre) (xs := x.l) HOW.out rfl rfl ovA ovA (Nat.le_refl _) (by simp) (by exact slA SR.out) (by unfold maxLen; omega) (by omega) ?_; intro v8 x8 ho8 _ _; have HO8 := hid ho8; clear ho8)
     go_roundw
     case rel => exact ⟨k + 1, by omega, by go_num, by rw [HTK.out]; exact HO8.out, ovA⟩
     case measure => (simp [intOf]; try omega)
   · obtain rfl : k = ck.length := by omega
     have hfa : ((ck.take ck.length).map (·.l)).flatten = s.all := by rw [List.take_length]; exact ck_flat HCS.out
     have HFA := hid hfa; clear hown hfa; go_wp2; go_ret
     refine ⟨(ovB O1.out), _, rfl, ?_⟩; have hle : w.heap.size ≤ w1.heap.size := by obtain ⟨z, hz⟩ := O1.out; rw [hz]; simp
     rw [← HFA.out]; exact Own.mono HOW.out hle
theorem rmay_yes {base : Nat} {w : World} {p sz : Nat} {v : Value} {rs : List Rr} {R : List (Nat × Sr)} (h : RbAt base w p sz v rs R) (id : Nat) (hlen : rs.length < 64 ∨ rthere R id) (hlen2 : rs.length ≤ 1000000) {s : Sr} (hs : getS R id = s) (hall : s.all.length ≤ 100000) (hcl : s.cl.length ≤ 100000)
    (t : Int) (vv : Nat) (hm : ∀ l' y, s.all = l' ++ [y] → y.t < t) :
    Calls Tryz.prog 24 #[.pointer (some ⟨p, 0, none⟩), .int .u32 (id : Nat), .agg #[.int .i64 t, .int .u64 (vv : Nat)]] w (Ret w (.int .i64 0)) := by
  have HF := hid (fun W (hW : ∃ e, W = over w e) => rfull_any (RbAt.ov h hW) id hlen hlen2); have HS := hid (fun W (hW : ∃ e, W = over w e) => rsamples_any (RbAt.ov h hW) id hlen2 hs hall hcl); obtain ⟨xs, hxs⟩ : ∃ xs, s.all = xs := ⟨_, rfl⟩; rw [hxs] at HS hm hall; clear h hlen hlen2 hs hcl hxs; rcases List.eq_nil_or_concat xs with rfl | ⟨l', y, hxy⟩
  · go_enter Tryz.func24, Tryz.ntmps24
    go_wp2_with (first
      | (go_at_call 54; (with_reducible refine (HF.out _ ovA).mono ?_); rintro _ _ ⟨⟨e1, rfl⟩, rfl⟩)
      | (go_at_call 55; (with_reducible refine (HS.out _ ovA).mono ?_); rintro _ _ ⟨⟨e2, rfl⟩, v2, rfl, o2⟩; obtain ⟨a2, c2, rfl, s2⟩ := Own.slice Sm.cs_len o2; clear o2 s2))
    refine wro (by kernel_rfl) (by kernel_rfl) ?_; repeat (go_big_quiet_step ((fail)))
    refine wpQuiet_nil ?_; intro _ hw'; obtain ⟨nq, rfl⟩ := hw'; go_wp2; go_ret
    exact ⟨ovA, rfl⟩
  · rw [List.concat_eq_append] at hxy; have hyt := hm l' y hxy; have hn : xs.length = l'.length + 1 := by rw [hxy]; simp
    obtain ⟨n, hnn⟩ : ∃ n, l'.length = n := ⟨_, rfl⟩; rw [hnn] at hn; have hnl : n < xs.length := by omega
    have hxn : xs[n]'hnl = y := by subst hnn; simp [hxy]
    have HX := hid hxn; obtain ⟨yt, hy⟩ : ∃ yt, y.t = yt := ⟨_, rfl⟩; rw [hy] at hyt; have HY := hid hy; have hd : decide (t ≤ yt) = false := decide_eq_false (by omega); have hd0 : decide (0 < xs.length) = true := decide_eq_true (by omega); have HS2 : Hid (∀ W, (∃ e, W = over w e) → Calls Tryz.prog 55 #[.pointer (some ⟨p, 0, none⟩), .int .u32 (id : Nat)] W (Gives W fun v w' => ∃ b o c, v = .slice (some ⟨b, o, none⟩) (n + 1) c ∧ b < w'.heap.size ∧ w'.cell? ⟨b, o + n * 2, none⟩ = some (.int .i64 yt))) := hid (fun W hW => (HS.out W hW).mono fun en w' hg => by
     obtain ⟨ho, v2, rfl, o2⟩ := hg; obtain ⟨a2, c2, rfl, s2⟩ := Own.slice Sm.cs_len o2; obtain ⟨ab, ao, rfl, hab, q0, q1⟩ := SlM.at_ s2 hnl; rw [HX.out, HY.out] at q0; exact ⟨ho, _, rfl, ab, ao, c2, by rw [hn], hab, q0⟩)
    have hnb : n ≤ 100000 := by omega
    have hd1 : decide ((0 : Int) < (n : Int) + 1) = true := decide_eq_true (by omega); have hd2 : decide (0 < n + 1) = true := decide_eq_true (by omega); clear hm hxy hnn hxn hy hn hd0 HS hnl HX HY
    go_enter Tryz.func24, Tryz.ntmps24
    go_wp2_with (first
      | (go_at_call 54; (with_reducible refine (HF.out _ ovA).mono ?_); rintro _ _ ⟨⟨e1, rfl⟩, rfl⟩)
      | (go_at_call 55; (with_reducible refine (HS2.out _ ovA).mono ?_); rintro _ W2 ⟨⟨e2, hW2⟩, v2, rfl, ab, ao, c2, rfl, hab, q0⟩
         have O2 : Hid (∃ e, W2 = over w e) := hid (by rw [hW2]; exact ovA); have B2 : Hid (Blk W2 w.heap.size [.int .i64 t, .int .u64 (vv : Nat)] 38) := hid (by rw [hW2]; exact Blk.on (Blk.on (Blk.new' rfl) _) _); have b0 := B2.out.cell 0 rfl; have bl := B2.out.lt; clear hW2))
    refine wro (by kernel_rfl) (by kernel_rfl) ?_; repeat (go_big_quiet_step ((fail)))
    refine wpQuiet_nil ?_; intro _ hw'; obtain ⟨nq, rfl⟩ := hw'; go_wp2; go_ret
    exact ⟨(ovB O2.out), rfl⟩
end
section
open Go.RowKit
attribute [local go_sem] odr cdr
theorem Sl.takeL {α : Type} {sz : Nat} {cells : α → List Value} {w : World} {a : Option Addr} {cap : Nat} {xs ys : List α} (h : Sl sz cells w a cap (xs ++ ys)) : Sl sz cells w a cap xs :=
 ⟨by have := h.le; simp at this; omega, h.max, h.nul, fun i x hx => h.rec_ i x (by rw [List.getElem?_append_left (List.getElem?_eq_some_iff.1 hx).1]; exact hx)⟩
theorem Sl.dropR {α : Type} {sz : Nat} {cells : α → List Value} {w : World} {a : Option Addr} {cap : Nat} {xs ys : List α} (h : Sl sz cells w a cap (xs ++ ys)) :
    Sl sz cells w (if cap = xs.length then a else a.map (fun x => x.add (xs.length * sz))) (cap - xs.length) ys := by
  have hle := h.le; have hmx := h.max; simp only [List.length_append] at hle; refine ⟨by omega, by omega, fun hn => ?_, fun k x hx => ?_⟩
  · split at hn
    · omega
    · have h1 : a = none := by simpa using hn
      have := h.nul h1; omega
  · have hk : k < ys.length := (List.getElem?_eq_some_iff.1 hx).1; obtain ⟨b, off, rfl, hb, hc⟩ := h.rec_ (xs.length + k) x (by rw [List.getElem?_append_right (by omega), Nat.add_sub_cancel_left]; exact hx); refine ⟨b, off + xs.length * sz, ?_, hb, fun m u hu => ?_⟩
    · rw [if_neg (by omega), Option.map_some, Go.WideShapes.add_plain]
    · have := hc m u hu; rw [Nat.add_mul, ← Nat.add_assoc] at this; exact this
theorem blk_own1 {a : Option Addr} {k n c : Nat} (h : k ∈ blk? a) : (Value.slice a n c).ownBlock = some k := by
 cases a with
 | none => simp [blk?] at h
 | some ad => simp [blk?] at h; subst h; rfl
theorem gen_c2 {P : Program} {f : Nat} {args : Array Value} {w : World} {Q : Ending → World → Prop} (h : ∀ W, W = w → Calls P f args W Q) : Calls P f args w Q := h w rfl
def withL (k : List (List Sm × Bool)) (l : List Sm) (cl : Bool) : List (List Sm × Bool) := k.dropLast ++ [(l, cl)] ++ (if cl then [([], false)] else [])
def withC (k : List Rc) (x : Rc) : List Rc := k ++ [x] ++ (if x.cl then [⟨none, 0, [], false⟩] else [])
theorem with_at {F : List Nat} {w w' : World} {a a' : Option Addr} {c c' n' : Nat} {k0 : List Rc} {y x : Rc} (hk : CkAt F w a c (k0 ++ [y])) (hl : SlM w x.a x.c x.l) (hlb : ∀ b ∈ blk? x.a, b < w.heap.size ∧ b ∉ F) (hF : ∀ b ∈ F, b < w.heap.size)
    (ho : ∃ e, w' = over w e) (hown : Own w.heap.size 74 2 Rc.cs w' (.slice a' n' c') (withC k0 x)) : n' = (withC k0 x).length ∧ CkAt F w' a' c' (withC k0 x) := by
  obtain ⟨h1, h2⟩ := Own.slice' Rc.cs_len hown; obtain ⟨e, rfl⟩ := ho; have hmem : ∀ z ∈ withC k0 x, z ∈ k0 ∨ z = x ∨ z = ⟨none, 0, [], false⟩ := by
   intro z hz; unfold withC at hz; rcases List.mem_append.1 hz with hz | hz
   · rcases List.mem_append.1 hz with hz | hz
     · exact .inl hz
     · exact .inr (.inl (by simpa using hz))
   · split at hz
     · exact .inr (.inr (by simpa using hz))
     · simp at hz
  refine ⟨h1, h2, fun z hz => ?_, fun b hb => ?_⟩
  · rcases hmem z hz with h3 | rfl | rfl
    · exact Sl.over (hk.rows z (by simp [h3])) e
    · exact Sl.over hl e
    · exact Sl.nil _
  · rcases List.mem_append.1 hb with hb | hb
    · have h3 := Own.lt hown (blk_own1 hb); exact ⟨h3.2, fun hm => by have := hF b hm; omega⟩
    · obtain ⟨z, hz, hbz⟩ := List.mem_flatMap.1 hb; have h4 : b < w.heap.size ∧ b ∉ F := by
       rcases hmem z hz with h3 | h3 | h3
       · exact hk.ap b (List.mem_append_right _ (List.mem_flatMap.2 ⟨z, by simp [h3], hbz⟩))
       · rw [h3] at hbz; exact hlb b hbz
       · rw [h3] at hbz; simp [blk?] at hbz
      exact ⟨by simp; omega, h4.2⟩
theorem withC_p (k0 : List Rc) (y x : Rc) : (withC k0 x).map Rc.p = withL ((k0 ++ [y]).map Rc.p) x.l x.cl := by
 obtain ⟨xa, xc, xl, cl⟩ := x; unfold withC withL; rw [List.map_append, List.map_append, List.map_append]; simp only [List.map_cons, List.map_nil, List.dropLast_concat]; cases cl <;> rfl
def WithPost (F : List Nat) (w : World) (q : List (List Sm × Bool)) (en : Ending) (w' : World) : Prop := (∃ e, w' = over w e) ∧ ∃ a' c' k', en = .returned (.slice a' (k' : List Rc).length c') ∧ CkAt F w' a' c' k' ∧ k'.map Rc.p = q
theorem rwith_any {F : List Nat} {w : World} {a : Option Addr} {c : Nat} {k0 : List Rc} {y x : Rc} (hk : CkAt F w a c (k0 ++ [y])) (hkl : k0.length ≤ 100000) (hl : SlM w x.a x.c x.l) (hlb : ∀ b ∈ blk? x.a, b < w.heap.size ∧ b ∉ F) (hF : ∀ b ∈ F, b < w.heap.size) :
    Calls Tryz.prog 27 #[.slice a (k0.length + 1) c, .slice x.a x.l.length x.c, .bool x.cl] w (WithPost F w (withL ((k0 ++ [y]).map Rc.p) x.l x.cl)) := by
  have HT := hid (Sl.takeL hk.row); have hkc : k0.length ≤ c := HT.out.le; have HP := hid (fun a' n' c' w' hown ho => with_at (w' := w') (a' := a') (n' := n') (c' := c') hk hl hlb hF ho hown); have HW := hid (withC_p k0 y x); obtain ⟨q, hq⟩ : ∃ q, withL ((k0 ++ [y]).map Rc.p) x.l x.cl = q := ⟨_, rfl⟩; rw [hq] at HW ⊢; clear hk hl hlb hF hq; obtain ⟨xa, xc, xl, cl⟩ := x; cases cl with
  | false =>
   go_enter Tryz.func27, Tryz.ntmps27
   go_wp2_with (first
     | (at_builtin
        refine wpList_append rc_elem Rc.cs_len Rc.cs_one rfl (.tmp 8) (.tmp 13) rfl (B := w) (base := w.heap.size) (ys := []) (xs := k0) (Own.nil w) rfl rfl ovA ovA (Nat.le_refl _) (Nat.le_refl _) (by exact slA HT.out) (by simp only [List.length_nil]; unfold maxLen; omega) (by simp only [List.length_nil]; omega) ?_; intro v1 x1 ho1 _ _; have HO1 := hid ho1; clear ho1)
     | (at_builtin; refine wpList_append rc_elem Rc.cs_len Rc.cs_one rfl (.tmp 15) (.tmp 19) rfl (B := w) (xs := [(⟨xa, xc, xl, false⟩ : Rc)]) HO1.out rfl rfl ovA ovA (by exact asA) (by exact asA) (by (repeat with_reducible refine Sl.drew ?_); exact Sl.one_new (y := (⟨xa, xc, xl, false⟩ : Rc)) (by simp; try omega)) (by exact lnA) (by exact lnB) ?_; intro v2 x2 ho2 _ _; obtain ⟨a2, c2, rfl, _⟩ := Own.slice Rc.cs_len ho2; have HO2 := hid ho2; clear ho2))
   go_ret
   have hw0 : [] ++ k0 ++ [⟨xa, xc, xl, false⟩] = withC k0 ⟨xa, xc, xl, false⟩ := by simp [withC]
   have h := HO2.out; rw [hw0] at h; have hP := HP.out _ _ _ _ h ovA; refine ⟨ovA, a2, c2, _, ?_, hP.2, HW.out⟩; rw [← hw0]; simp
  | true =>
   go_enter Tryz.func27, Tryz.ntmps27
   go_wp2_with (first
     | (at_builtin
        refine wpList_append rc_elem Rc.cs_len Rc.cs_one rfl (.tmp 8) (.tmp 13) rfl (B := w) (base := w.heap.size) (ys := []) (xs := k0) (Own.nil w) rfl rfl ovA ovA (Nat.le_refl _) (Nat.le_refl _) (by exact slA HT.out) (by simp only [List.length_nil]; unfold maxLen; omega) (by simp only [List.length_nil]; omega) ?_; intro v1 x1 ho1 _ _; have HO1 := hid ho1; clear ho1)
     | (at_builtin; refine wpList_append rc_elem Rc.cs_len Rc.cs_one rfl (.tmp 15) (.tmp 19) rfl (B := w) (xs := [(⟨xa, xc, xl, true⟩ : Rc)]) HO1.out rfl rfl ovA ovA (by exact asA) (by exact asA) (by (repeat with_reducible refine Sl.drew ?_); exact Sl.one_new (y := (⟨xa, xc, xl, true⟩ : Rc)) (by simp; try omega)) (by exact lnA) (by exact lnB) ?_; intro v2 x2 ho2 _ _; have HO2 := hid ho2; clear ho2)
     | (at_builtin; refine wpList_append rc_elem Rc.cs_len Rc.cs_one rfl (.tmp 22) (.tmp 24) rfl (B := w) (xs := [(⟨none, 0, [], false⟩ : Rc)]) HO2.out rfl rfl ovA ovA (by exact asA) (by exact asA) (by (repeat with_reducible refine Sl.drew ?_); exact Sl.one_new (y := (⟨none, 0, [], false⟩ : Rc)) (by simp; try omega)) (by exact lnA) (by exact lnB) ?_; intro v3 x3 ho3 _ _; obtain ⟨a3, c3, rfl, _⟩ := Own.slice Rc.cs_len ho3; have HO3 := hid ho3; clear ho3))
   go_ret
   have hw0 : [] ++ k0 ++ [⟨xa, xc, xl, true⟩] ++ [⟨none, 0, [], false⟩] = withC k0 ⟨xa, xc, xl, true⟩ := by simp [withC]
   have h := HO3.out; rw [hw0] at h; have hP := HP.out _ _ _ _ h ovA; refine ⟨ovA, a3, c3, _, ?_, hP.2, HW.out⟩; rw [← hw0]; simp
end
section
open Go.RowKit
attribute [local go_sem] odr cdr
def SetPost (w : World) (base p sz : Nat) (v : Value) (R : List (Nat × Sr)) (ret : Value) (en : Ending) (w' : World) : Prop :=
 en = .returned ret ∧ ∃ v' rs', Chg (p :: v.ownBlock.toList) w w' ∧ RbAt base w' p sz v' rs' R
theorem rows_new {r0 r1 : List Rr} {R : List (Nat × Sr)} (h : (r0 ++ r1).map (fun r => (r.id, r.k.map Rc.p)) = R.map (fun x => (x.1, ckOf x.2))) (x : Rr) {id : Nat} {s : Sr} (h1 : x.id = id) (h2 : x.k.map Rc.p = ckOf s) :
    (r0 ++ [x] ++ r1).map (fun r => (r.id, r.k.map Rc.p)) = (R.take r0.length ++ [(id, s)] ++ R.drop r0.length).map (fun x => (x.1, ckOf x.2)) := by
  have e0 := congrArg (fun l => l.take r0.length) h; have e1 := congrArg (fun l => l.drop r0.length) h; have hl : (r0.map (fun r => (r.id, r.k.map Rc.p))).length = r0.length := by simp
  simp only [List.map_append, ← List.map_take, ← List.map_drop] at e0 e1; rw [← hl, List.take_left, hl] at e0; rw [← hl, List.drop_left, hl] at e1; simp only [List.map_append, List.map_cons, List.map_nil, e0, e1, h1, h2]
theorem rows_mem {r0 r1 : List Rr} {x z : Rr} (h : z ∈ r0 ++ [x] ++ r1) : z ∈ r0 ++ r1 ∨ z = x := by
 rcases List.mem_append.1 h with h | h
 · rcases List.mem_append.1 h with h | h
   · exact .inl (by simp [h])
   · exact .inr (by simpa using h)
 · exact .inl (by simp [h])
theorem rset_any {base : Nat} {w : World} {p sz : Nat} {v : Value} {rs : List Rr} {R : List (Nat × Sr)} (h : RbAt base w p sz v rs R) (hbw : base ≤ w.heap.size) (hlen2 : rs.length ≤ 1000) {a : Option Addr} {c : Nat} {k : List Rc} (hk : CkAt (p :: v.ownBlock.toList) w a c k) (id : Nat) {s : Sr} (hs : k.map Rc.p = ckOf s) :
    Calls Tryz.prog 26 #[.pointer (some ⟨p, 0, none⟩), .int .u32 (id : Nat), .slice a k.length c] w (SetPost w base p sz v (rset R id s) (.tuple #[])) := by
  have HF := hid (fun W (hW : ∃ e, W = over w e) => rfind_any (RbAt.ov h hW) (by omega) id); have hp2 := h.blk.cell 2 rfl; have hpf := h.blk.free 2; have hpl := h.blk.lt; by_cases ht : rthere R id
  · have hb := rthB_iff.2 ht; rw [hb] at HF; rw [rset_yes ht]; obtain ⟨h1, h2⟩ := ht; have hl := h.len; have h3 : rix R id < rs.length := by omega
    obtain ⟨g, cap, hv, hgl, c0, c1, f1⟩ := h.cell h3; obtain ⟨_, h4, _⟩ := h.at_ h3; subst hv; have HP : Hid (∀ e, SetPost w base p sz (.slice (some ⟨g, 0, none⟩) rs.length cap) (R.set (rix R id) (id, s)) (.tuple #[]) (.returned (.tuple #[])) ((over w e).setCell ⟨g, rix R id * 2 + 1, none⟩ (.slice a k.length c))) := hid (fun e =>
     ⟨rfl, _, _, Chg.setCell ((Chg.refl _ _).on e) (.inl (by simp [Value.ownBlock])) _, RbAt.put (RbAt.ov h ⟨e, rfl⟩) h3 (CkAt.chg hk ((Chg.refl _ _).on e)) hs id (by rw [h4]; exact h2)⟩)
    obtain ⟨y, hy⟩ : ∃ y, rs[rix R id]'h3 = y := ⟨_, rfl⟩; rw [hy] at c1; clear hy h4 c0; obtain ⟨r, hr⟩ : ∃ r, rix R id = r := ⟨_, rfl⟩; rw [hr] at HF c1 f1 h3 HP ⊢; have hd : decide (r < rs.length) = true := decide_eq_true h3; clear h hb h1 h2 hs hk hr
    go_enter Tryz.func26, Tryz.ntmps26; go_wp2_with (go_at_call 56; (with_reducible refine (HF.out _ ovA).mono ?_); rintro _ _ ⟨⟨e1, rfl⟩, rfl⟩)
    go_end0
    have hq := HP.out e1
    rwa [setCell_over _ _ _ _ _ hgl] at hq
  · have hb : rthB R id = false := by
     cases hq : rthB R id with
     | false => rfl
     | true => exact absurd (rthB_iff.1 hq) ht
    rw [hb] at HF; have hsort : SortR (rset R id s) := rset_sort h.sort; rw [rset_no ht] at hsort ⊢; have hri := rix_le R id; have hl := h.len; obtain ⟨r0, r1, hr0, hrr⟩ : ∃ r0 r1, r0.length = rix R id ∧ rs = r0 ++ r1 := ⟨rs.take (rix R id), rs.drop (rix R id), by simp; omega, (List.take_append_drop _ _).symm⟩; subst hrr; obtain ⟨av, cv, hv, hsl⟩ := Own.slice Rr.cs_len h.row; subst hv; rw [← hr0] at HF hsort ⊢; have hin := rows_new h.is_ ⟨id, a, c, k⟩ (id := id) (s := s) rfl hs; have HN : Hid (∀ v' w2, Own w.heap.size 134 2 Rr.cs w2 v' ([] ++ r0 ++ [⟨id, a, c, k⟩] ++ r1) → (∃ e, w2 = over w e) → RbAt base (w2.setCell ⟨p, 2, none⟩ v') p sz v' (r0 ++ [⟨id, a, c, k⟩] ++ r1) (R.take r0.length ++ [(id, s)] ++ R.drop r0.length)) := hid (fun v' w2 hr ho =>
     RbAt.new h ho hr (fun z hz => by
      rcases rows_mem hz with h1 | h1
      · exact h.ser z h1
      · rw [h1]; exact hk) hin hsort hbw)
    have HT := hid (Sl.takeL hsl); have hcv := hsl.le; rw [List.length_append] at hp2 hcv hlen2 ⊢; have hkc : r0.length ≤ cv := by omega
    have hdr := Sl.dropR hsl; have hl1 : r0.length + r1.length ≤ cv := hcv; by_cases hci : cv = r0.length
    · rw [if_pos hci] at hdr; obtain rfl : r1 = [] := List.eq_nil_of_length_eq_zero (by omega); subst hci; rw [Nat.sub_self] at hdr; have HD := hid hdr; clear h hdr hsl hin hsort hs hk hr0 hb ht hri hl
      go_enter Tryz.func26, Tryz.ntmps26
      go_wp2_with (first
        | (go_at_call 56; (with_reducible refine (HF.out _ ovA).mono ?_); rintro _ _ ⟨⟨e1, rfl⟩, rfl⟩)
        | (at_builtin
           refine wpList_append rr_elem Rr.cs_len Rr.cs_one rfl (.tmp 24) (.tmp 30) rfl (B := w) (base := w.heap.size) (ys := []) (xs := r0) (Own.nil w) rfl rfl ovA ovA (Nat.le_refl _) (Nat.le_refl _) (by exact slA HT.out) (by simp only [List.length_nil]; unfold maxLen; omega) (by simp only [List.length_nil]; omega) ?_; intro v1 x1 ho1 _ _; have HO1 := hid ho1; clear ho1)
        | (at_builtin; refine wpList_append rr_elem Rr.cs_len Rr.cs_one rfl (.tmp 32) (.tmp 36) rfl (B := w) (xs := [(⟨id, a, c, k⟩ : Rr)]) HO1.out rfl rfl ovA ovA (by exact asA) (by exact asA) (by (repeat with_reducible refine Sl.drew ?_); exact Sl.one_new (y := (⟨id, a, c, k⟩ : Rr)) (by simp; try omega)) (by exact lnA) (by exact lnB) ?_; intro v2 x2 ho2 _ _; have HO2 := hid ho2; clear ho2)
        | (at_builtin
           refine wpList_append rr_elem Rr.cs_len Rr.cs_one rfl (.tmp 38) (.tmp 44) rfl (w1 := over w x2) (B := w) (base := w.heap.size) (ys := [] ++ r0 ++ [⟨id, a, c, k⟩]) (xs := []) HO2.out rfl rfl ovA ovA (Nat.le_refl _) (by simp) (by exact slA HD.out) (by simp only [List.length_append, List.length_nil, List.length_singleton]; unfold maxLen; omega) (by simp only [List.length_append, List.length_nil, List.length_singleton]; omega) ?_; intro v3 x3 ho3 _ _; obtain ⟨a3, c3, rfl, _⟩ := Own.slice Rr.cs_len ho3; have HO3 := hid ho3; obtain ⟨n3, hn3⟩ : ∃ n, ([] ++ r0 ++ [⟨id, a, c, k⟩] ++ [] : List Rr).length = n := ⟨_, rfl⟩; rw [hn3] at HO3 ⊢; clear ho3 hn3))
      go_end0
      have hN := HN.out _ _ HO3.out ovA; have hC : Chg (p :: (Value.slice av (r0.length + ([] : List Rr).length) r0.length).ownBlock.toList) w ((over w x3).setCell ⟨p, 2, none⟩ (.slice a3 n3 c3)) := Chg.setCell ((Chg.refl _ _).on _) (.inl (by simp)) _; rw [setCell_over _ _ _ _ _ hpl] at hN hC; exact ⟨rfl, _, _, hC, hN⟩
    · rw [if_neg hci] at hdr; have HD := hid hdr; clear h hdr hsl hin hsort hs hk hr0 hb ht hri hl
      go_enter Tryz.func26, Tryz.ntmps26
      go_wp2_with (first
        | (go_at_call 56; (with_reducible refine (HF.out _ ovA).mono ?_); rintro _ _ ⟨⟨e1, rfl⟩, rfl⟩)
        | (at_builtin
           refine wpList_append rr_elem Rr.cs_len Rr.cs_one rfl (.tmp 24) (.tmp 30) rfl (B := w) (base := w.heap.size) (ys := []) (xs := r0) (Own.nil w) rfl rfl ovA ovA (Nat.le_refl _) (Nat.le_refl _) (by exact slA HT.out) (by simp only [List.length_nil]; unfold maxLen; omega) (by simp only [List.length_nil]; omega) ?_; intro v1 x1 ho1 _ _; have HO1 := hid ho1; clear ho1)
        | (at_builtin; refine wpList_append rr_elem Rr.cs_len Rr.cs_one rfl (.tmp 32) (.tmp 36) rfl (B := w) (xs := [(⟨id, a, c, k⟩ : Rr)]) HO1.out rfl rfl ovA ovA (by exact asA) (by exact asA) (by (repeat with_reducible refine Sl.drew ?_); exact Sl.one_new (y := (⟨id, a, c, k⟩ : Rr)) (by simp; try omega)) (by exact lnA) (by exact lnB) ?_; intro v2 x2 ho2 _ _; have HO2 := hid ho2; clear ho2)
        | (at_builtin
           refine wpList_append rr_elem Rr.cs_len Rr.cs_one rfl (.tmp 38) (.tmp 44) rfl (w1 := over w x2) (B := w) (base := w.heap.size) (ys := [] ++ r0 ++ [⟨id, a, c, k⟩]) (xs := r1) HO2.out rfl rfl ovA ovA (Nat.le_refl _) (by simp) (by exact slA HD.out) (by simp only [List.length_append, List.length_nil, List.length_singleton]; unfold maxLen; omega) (by simp only [List.length_append, List.length_nil, List.length_singleton]; omega) ?_; intro v3 x3 ho3 _ _; obtain ⟨a3, c3, rfl, _⟩ := Own.slice Rr.cs_len ho3; have HO3 := hid ho3; obtain ⟨n3, hn3⟩ : ∃ n, ([] ++ r0 ++ [⟨id, a, c, k⟩] ++ r1 : List Rr).length = n := ⟨_, rfl⟩; rw [hn3] at HO3 ⊢; clear ho3 hn3))
      go_end0
      have hN := HN.out _ _ HO3.out ovA; have hC : Chg (p :: (Value.slice av (r0.length + (r1 : List Rr).length) cv).ownBlock.toList) w ((over w x3).setCell ⟨p, 2, none⟩ (.slice a3 n3 c3)) := Chg.setCell ((Chg.refl _ _).on _) (.inl (by simp)) _; rw [setCell_over _ _ _ _ _ hpl] at hN hC; exact ⟨rfl, _, _, hC, hN⟩
theorem ck_last {k : List Rc} {s : Sr} (h : k.map Rc.p = ckOf s) : ∃ k0 y, k = k0 ++ [y] ∧ k0.length = s.cl.length ∧ k0.map Rc.p = s.cl.map (fun c => (c, true)) ∧ y.l = s.op := by
 rcases List.eq_nil_or_concat k with rfl | ⟨k0, y, rfl⟩
 · have := congrArg List.length h; simp [ckOf] at this
 · rw [List.concat_eq_append] at h ⊢; rw [List.map_append] at h; unfold ckOf at h; have h2 := List.append_inj' h rfl; refine ⟨k0, y, rfl, ?_, h2.1, ?_⟩
   · have := congrArg List.length h2.1
     simpa using this
   · have := h2.2; simp [Rc.p] at this; exact this.1
theorem with_put {sz : Nat} {k0 : List Rc} {y : Rc} {s : Sr} {x : Sm} (h1 : k0.map Rc.p = s.cl.map (fun c => (c, true))) :
    withL ((k0 ++ [y]).map Rc.p) (s.op ++ [x]) (decide (s.op.length + 1 = sz)) = ckOf (s.put sz x) := by
  unfold withL; rw [List.map_append, List.map_cons, List.map_nil, List.dropLast_concat, h1]; unfold Sr.put ckOf; by_cases hc : s.op.length + 1 = sz
  · rw [if_pos hc, decide_eq_true hc]; simp
  · rw [if_neg hc, decide_eq_false hc]; simp
theorem rbput_any {base : Nat} {w : World} {p sz : Nat} {v : Value} {rs : List Rr} {R : List (Nat × Sr)} (h : RbAt base w p sz v rs R) (hbw : base ≤ w.heap.size) (id : Nat) (hlen : rs.length < 64 ∨ rthere R id) (hlen2 : rs.length ≤ 1000) {s : Sr} (hs : getS R id = s) (hall : s.all.length ≤ 1000) (hcl : s.cl.length ≤ 1000)
    (x : Sm) (hm : ∀ l' y, s.all = l' ++ [y] → y.t < x.t) :
    Calls Tryz.prog 8 #[.pointer (some ⟨p, 0, none⟩), .int .u32 (id : Nat), .agg #[.int .i64 x.t, .int .u64 (x.v : Nat)]] w (SetPost w base p sz v (rset R id (s.put sz x)) (.int .i64 0)) := by
  have HM := hid (fun W (hW : ∃ e, W = over w e) => rmay_yes (RbAt.ov h hW) id hlen (by omega) hs (by omega) (by omega) x.t x.v hm); have HC := hid (fun W (hW : ∃ e, W = over w e) => rchunks_any (RbAt.ov h hW) id (by omega)); rw [hs] at HC
  have hop : s.op.length ≤ 1000 := by have : s.all.length = s.cl.flatten.length + s.op.length := by simp [Sr.all]
                                      omega
  have hp1 := h.blk.cell 1 rfl; have hpl := h.blk.lt; have hF : ∀ b ∈ p :: v.ownBlock.toList, b < w.heap.size := fun b hb => by
   rcases List.mem_cons.1 hb with rfl | hb
   · exact hpl
   · exact (Own.lt h.row (by simpa using hb)).2
  have HF := hid hF; have HR := hid h; have hbb : ∀ n : Nat, s.op.length + 1 = n → ((n : Int) == (sz : Int)) = decide (s.op.length + 1 = sz) := fun n hn => by rw [hn, Bool.eq_iff_iff]; simp; omega
  obtain ⟨B, hB⟩ : ∃ B, decide (s.op.length + 1 = sz) = B := ⟨_, rfl⟩; have HBB := hid hbb; have HB := hid hB; clear h hlen hs hall hm hF hbb hB
  go_enter Tryz.func8, Tryz.ntmps8
  go_wp2_with (first
    | (go_at_call 24; (with_reducible refine (HM.out _ ovA).mono ?_); rintro _ _ ⟨⟨e1, rfl⟩, rfl⟩)
    | (go_at_call 25
       (with_reducible refine (HC.out _ ovA).mono ?_)
       rintro _ W3 ⟨⟨e3, hW3⟩, ca, cc, ck, rfl, hck, hcs⟩; have O3 : Hid (∃ e, W3 = over w e) := hid (by rw [hW3]; exact ovA); have B3 : Hid (Blk W3 w.heap.size [.int .i64 x.t, .int .u64 (x.v : Nat)] 38) := hid (by rw [hW3]; exact Blk.on (Blk.on (Blk.new' rfl) _) _); obtain ⟨k0, y, hk0, hk1, hk2, hyl⟩ := ck_last hcs; subst hk0; have hkl : (k0 ++ [y]).length = k0.length + 1 := by simp
       have hk0l : k0.length ≤ 1000 := by omega
       obtain ⟨cb, co, hca, hcb, q0, q1⟩ := SlC.at_ hck.row (k := k0.length) (by simp); have hgy : (k0 ++ [y])[k0.length]'(by simp) = y := by simp
       rw [hgy] at q0; have hyr := hck.rows y (by simp); rw [hkl]; subst hca; have HK := hid hck; have HY := hid hyr; have HYL := hid hyl; have HK2 := hid hk2; have hyn : y.l.length ≤ 1000 := by rw [hyl]; exact hop
       have b0 := B3.out.cell 0 rfl; have b1 := B3.out.cell 1 rfl; have bl := B3.out.lt; have r1 := (RbAt.ov HR.out O3.out).blk.cell 1 rfl; have rl := (RbAt.ov HR.out O3.out).blk.lt; clear hW3 hck hcs hk1 hk2 hgy hkl hyr q1 hyl)
    | (at_builtin
       refine wpList_append sample_elem Sm.cs_len Sm.cs_one rfl (.tmp 20) (.tmp 27) rfl (w1 := W3) (B := W3) (base := W3.heap.size) (ys := []) (xs := y.l) (Own.nil W3) rfl rfl ovA ovA (Nat.le_refl _) (Nat.le_refl _) (by exact slA HY.out) (by simp only [List.length_nil]; unfold maxLen; omega) (by simp only [List.length_nil]; omega) ?_; intro v6 x6 ho6 _ _; have HO6 := hid ho6; clear ho6)
    | (at_builtin; refine wpList_append sample_elem Sm.cs_len Sm.cs_one rfl (.tmp 29) (.tmp 31) rfl (B := W3) (xs := [x]) HO6.out rfl rfl ovA ovA (by exact asA) (by exact asA) (by (repeat with_reducible refine Sl.drew ?_); exact Sl.one_new (y := x) (by simp; try omega)) (by exact lnA) (by exact lnB) ?_
       intro v7 x7 ho7 _ _; obtain ⟨a7, c7, rfl, hs7⟩ := Own.slice Sm.cs_len ho7; have hl7 : ([] ++ y.l ++ [x]).length = s.op.length + 1 := by rw [HYL.out]; simp
       have HS7 := hid hs7; have HO7 := hid ho7; have HL7 := hid (HBB.out _ hl7.symm); rw [HB.out] at HL7; obtain ⟨n7, hn7⟩ : ∃ n, ([] ++ y.l ++ [x]).length = n := ⟨_, rfl⟩; have HN7 := hid hn7; rw [hn7] at HO7 HL7 ⊢; have hl7b := HL7.out; clear ho7 hs7 hl7 hn7)
    | (go_at_call 27
       refine gen_c2 ?_; intro W8 hW8; have O8 : Hid (∃ e, W8 = over W3 e) := hid (by rw [hW8]; exact ovA); have hw := rwith_any (F := p :: v.ownBlock.toList) (w := W8) (x := ⟨a7, c7, [] ++ y.l ++ [x], B⟩) (CkAt.chg HK.out (Chg.of_ov O8.out _)) (by omega) (by rw [hW8]; exact (by exact slA HS7.out)) (fun b hb => by
        have h1 := Own.lt HO7.out (blk_own1 hb); have h2 : W3.heap.size ≤ W8.heap.size := by obtain ⟨e, he⟩ := O8.out; rw [he]; simp
        have h3 : (over W3 x7).heap.size ≤ W8.heap.size := by rw [hW8]; exact Nat.le_refl _
        refine ⟨by omega, fun hm => ?_⟩; have h4 := HF.out b hm; have h5 : w.heap.size ≤ W3.heap.size := by obtain ⟨e, he⟩ := O3.out; rw [he]; simp
        omega) (fun b hb => by
        have h4 := HF.out b hb; have h5 : w.heap.size ≤ W3.heap.size := by obtain ⟨e, he⟩ := O3.out; rw [he]; simp
        have h2 : W3.heap.size ≤ W8.heap.size := by obtain ⟨e, he⟩ := O8.out; rw [he]; simp
        omega)
       simp only at hw; rw [HN7.out] at hw; clear hW8
       (with_reducible refine hw.mono ?_)
       rintro _ W9 ⟨⟨e9, hW9⟩, a9, c9, k9, rfl, hck9, hp9⟩; have O9 : Hid (∃ e, W9 = over w e) := hid (by obtain ⟨z, hz⟩ := over_trans O3.out O8.out; rw [hW9, hz]; exact ⟨_, over_over _ _ _⟩); have HK9 := hid hck9; have HP9 := hid hp9; clear hW9 hck9 hp9 hw)
    | (go_at_call 26
       refine gen_c2 ?_; intro W10 hW10; obtain rfl : W10 = W9 := hW10; have hp := HP9.out; rw [List.nil_append, HYL.out, ← HB.out, with_put HK2.out] at hp; have hle : w.heap.size ≤ W10.heap.size := by obtain ⟨e, he⟩ := O9.out; rw [he]; simp
       (with_reducible refine (rset_any (RbAt.ov HR.out O9.out) (by omega) hlen2 HK9.out id hp).mono ?_)
       rintro _ W11 ⟨rfl, v11, rs11, hc11, hr11⟩; have HC11 := hid hc11; have HR11 := hid hr11; clear hc11 hr11 hp))
  go_ret
  exact ⟨rfl, v11, rs11, Chg.trans (Chg.of_ov O9.out _) HC11.out, HR11.out⟩
end
end Go.Proofs.YtnffcckhdedhpaaGreatDoor
