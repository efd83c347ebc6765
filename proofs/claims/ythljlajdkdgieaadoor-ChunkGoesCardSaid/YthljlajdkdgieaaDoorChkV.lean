/- Walks: ChunkGoes. -/
import Derived.Test.YthljlajdkdgieaaDoorGM
import Derived.Test.YthljlajdkdgieaaDoorChkG
import Derived.Test.YthljlajdkdgieaaDoorGB
import Derived.Test.YthljlajdkdgieaaDoorGA
namespace Go.Proofs.YthljlajdkdgieaaDoor
set_option linter.unusedVariables false
set_option linter.unusedSimpArgs false
open Go.RowKit
attribute [local go_sem] over_drew chg_drew

theorem Sl.take {α : Type} {sz : Nat} {cells : α → List Value} {w : World} {a : Option Addr} {cap : Nat} {xs : List α} (h : Sl sz cells w a cap xs) (n : Nat) : Sl sz cells w a cap (xs.take n) :=
  ⟨by rw [List.length_take]; have := h.le; omega, h.max, h.nul, fun i x hx => h.rec_ i x (by rw [List.getElem?_take] at hx; split at hx; exact hx; cases hx)⟩
/-- The bits the call's own. -/
def CpO (w : World) (L : List Bool) (e : En) (en : Ending) (w' : World) : Prop :=
  ∃ a c, en = .returned (.tuple #[bv a (pack L).length c L.length, e.v, .int .u16 0]) ∧ (∃ x, w' = over w x) ∧ OwnB w.heap.size w' (.slice a (pack L).length c) (pack L)
theorem CoPost.o {w w' : World} {L : List Bool} {e : En} {en : Ending} (h : CoPost w (L, e, 0) en w') : CpO w L e en w' := h
theorem TabW.ch {F : List Nat} {w w' : World} (h : TabW w) (hc : Chg F w w') (hF : 0 ∉ F) : TabW w' := by
  obtain ⟨m, rfl⟩ := chg_of hc; exact h.chg m hF

theorem own_stays {F : List Nat} {w : World} {base n c : Nat} {a : Option Addr} {xs : List Nat} (h : OwnB base w (.slice a n c) xs) (hb : ∀ i ∈ F, i < base) : ∀ W, Chg F w W → SlB W a c xs :=
  fun W hc => Sl.chg (Own.slice' bcs_len h).2 hc (fun ad hd hm => by subst hd; have h1 := (Own.lt h rfl).1; have h2 := hb _ hm; omega)

/-- The state of the loop. -/
structure GoRel (W0 : World) (F : List Nat) (p7 p8 p14 : Nat) (xs : List Sm) (k : Nat) (wr : World) : Prop where
  cls : Chg F W0 wr
  b7 : ∃ a c, Blk wr p7 [.slice a (pack (bitsC En.zero (xs.take k))).length c, .int .i64 ((bitsC En.zero (xs.take k)).length : Nat)] 29 ∧ ∀ W, Chg F wr W → SlB W a c (pack (bitsC En.zero (xs.take k)))
  b8 : Blk wr p8 (knowC En.zero (xs.take k)).cs 42
  b14 : Blk wr p14 (knowC En.zero (xs.take k)).cs 42
theorem go_next {W0 W : World} {F : List Nat} {p7 p8 p14 : Nat} {xs : List Sm} {k : Nat} {a3 a7 : Option Addr} {c3 c7 n3 : Nat} {N3 : Int} {L' : List Bool} {t' t0 t1 : En} {base : Nat} (hc : Chg F W0 W) (hL : bitsC En.zero (xs.take (k + 1)) = L') (ht : knowC En.zero (xs.take (k + 1)) = t')
    (b7 : Blk W p7 [.slice a3 n3 c3, .int .i64 N3] 29) (b8 : Blk W p8 t0.cs 42) (b14 : Blk W p14 t1.cs 42)
    (m7 : p7 ∈ F) (m8 : p8 ∈ F) (m14 : p14 ∈ F) (n78 : ¬ p7 = p8) (n714 : ¬ p7 = p14) (n814 : ¬ p8 = p14)
    (ho : OwnB base W (.slice a7 (pack L').length c7) (pack L')) (hb : ∀ i ∈ F, i < base) :
    GoRel W0 F p7 p8 p14 xs (k + 1) ((((((((((((((((W.setCell ⟨p7, 0, none⟩ (.slice a7 (pack L').length c7)).setCell ⟨p7, 1, none⟩ (.int .i64 (L'.length : Nat))).setCell ⟨p8, 0, none⟩ (.int .i64 t'.n)).setCell ⟨p8, 1, none⟩ (.int .i64 t'.last)).setCell ⟨p8, 2, none⟩ (.int .i64 t'.delta)).setCell ⟨p8, 3, none⟩ (.bool t'.val.has)).setCell ⟨p8, 4, none⟩ (.int .u64 (t'.val.prev : Nat))).setCell ⟨p8, 5, none⟩ (.int .u8 (t'.val.lead : Nat))).setCell ⟨p8, 6, none⟩ (.int .u8 (t'.val.width : Nat))).setCell ⟨p14, 0, none⟩ (.int .i64 t'.n)).setCell ⟨p14, 1, none⟩ (.int .i64 t'.last)).setCell ⟨p14, 2, none⟩ (.int .i64 t'.delta)).setCell ⟨p14, 3, none⟩ (.bool t'.val.has)).setCell ⟨p14, 4, none⟩ (.int .u64 (t'.val.prev : Nat))).setCell ⟨p14, 5, none⟩ (.int .u8 (t'.val.lead : Nat))).setCell ⟨p14, 6, none⟩ (.int .u8 (t'.val.width : Nat))) := by
  subst hL ht
  have n87 : ¬ p8 = p7 := fun h => n78 h.symm
  have n147 : ¬ p14 = p7 := fun h => n714 h.symm
  have n148 : ¬ p14 = p8 := fun h => n814 h.symm
  have key : ∀ {A : World}, Chg F A W → Chg F A ((((((((((((((((W.setCell ⟨p7, 0, none⟩ (.slice a7 (pack (bitsC En.zero (xs.take (k + 1)))).length c7)).setCell ⟨p7, 1, none⟩ (.int .i64 ((bitsC En.zero (xs.take (k + 1))).length : Nat))).setCell ⟨p8, 0, none⟩ (.int .i64 (knowC En.zero (xs.take (k + 1))).n)).setCell ⟨p8, 1, none⟩ (.int .i64 (knowC En.zero (xs.take (k + 1))).last)).setCell ⟨p8, 2, none⟩ (.int .i64 (knowC En.zero (xs.take (k + 1))).delta)).setCell ⟨p8, 3, none⟩ (.bool (knowC En.zero (xs.take (k + 1))).val.has)).setCell ⟨p8, 4, none⟩ (.int .u64 ((knowC En.zero (xs.take (k + 1))).val.prev : Nat))).setCell ⟨p8, 5, none⟩ (.int .u8 ((knowC En.zero (xs.take (k + 1))).val.lead : Nat))).setCell ⟨p8, 6, none⟩ (.int .u8 ((knowC En.zero (xs.take (k + 1))).val.width : Nat))).setCell ⟨p14, 0, none⟩ (.int .i64 (knowC En.zero (xs.take (k + 1))).n)).setCell ⟨p14, 1, none⟩ (.int .i64 (knowC En.zero (xs.take (k + 1))).last)).setCell ⟨p14, 2, none⟩ (.int .i64 (knowC En.zero (xs.take (k + 1))).delta)).setCell ⟨p14, 3, none⟩ (.bool (knowC En.zero (xs.take (k + 1))).val.has)).setCell ⟨p14, 4, none⟩ (.int .u64 ((knowC En.zero (xs.take (k + 1))).val.prev : Nat))).setCell ⟨p14, 5, none⟩ (.int .u8 ((knowC En.zero (xs.take (k + 1))).val.lead : Nat))).setCell ⟨p14, 6, none⟩ (.int .u8 ((knowC En.zero (xs.take (k + 1))).val.width : Nat))) := by
    intro A h
    repeat with_reducible refine Chg.setCell ?_ (.inl (by assumption)) _
    exact h
  refine ⟨key hc, ⟨a7, c7, ?_, fun V hV => own_stays ho hb V ((key (Chg.refl _ _)).trans hV)⟩, ?_, ?_⟩
  · refine Blk.set_ne (Blk.set_ne (Blk.set_ne (Blk.set_ne (Blk.set_ne (Blk.set_ne (Blk.set_ne (Blk.set_ne (Blk.set_ne (Blk.set_ne (Blk.set_ne (Blk.set_ne (Blk.set_ne (Blk.set_ne ?_ n78 _) n78 _) n78 _) n78 _) n78 _) n78 _) n78 _) n714 _) n714 _) n714 _) n714 _) n714 _) n714 _) n714 _
    exact (b7.set 0 _).set 1 _
  · refine Blk.set_ne (Blk.set_ne (Blk.set_ne (Blk.set_ne (Blk.set_ne (Blk.set_ne (Blk.set_ne ?_ n814 _) n814 _) n814 _) n814 _) n814 _) n814 _) n814 _
    exact (((((((Blk.set_ne (Blk.set_ne b8 n87 _) n87 _).set 0 _).set 1 _).set 2 _).set 3 _).set 4 _).set 5 _).set 6 _
  · refine ((((((Blk.set (Blk.set_ne (Blk.set_ne (Blk.set_ne (Blk.set_ne (Blk.set_ne (Blk.set_ne (Blk.set_ne (Blk.set_ne (Blk.set_ne b14 n147 _) n147 _) n148 _) n148 _) n148 _) n148 _) n148 _) n148 _) n148 _) 0 _).set 1 _).set 2 _).set 3 _).set 4 _).set 5 _).set 6 _


set_option maxRecDepth 100000 in
set_option maxHeartbeats 8000000 in
theorem chunkGoes_any (xs : List Sm) (hx : ∀ s ∈ xs, s.wf) (a : Option Addr) (cap : Nat) (z : Int) (hz : -9223372036854775808 ≤ z ∧ z ≤ 9223372036854775807) (w : World) (hT : TabW w) (hs : SlM w a cap xs) :
    Calls Tryd.prog 13 #[.slice a xs.length cap, .int .i64 z] w (Ret w (.bool true)) := by
  have HK := hid (fun W hW => known06_any W hW)
  by_cases hlen : (40 : Int) < (xs.length : Int)
  · go_enter Tryd.func13, Tryd.ntmps13
    go_wp2_with (go_at_call 24; (with_reducible refine (HK.out _ (by repeat (first | with_reducible exact hT | with_reducible refine TabW.over ?_ _ | with_reducible refine TabW.alloc ?_ _ | with_reducible refine TabW.drew ?_ | ((with_reducible refine TabW.setCell ?_ ?_ _); rotate_left; (first | (focus (simp; done)) | (focus (simp; omega)))) | ((with_reducible refine TabW.chg ?_ _ ?_); rotate_left; (first | assumption | (focus (simp; done)) | (focus (simp; omega)))) | exact hT))).mono ?_); rintro _ _ ⟨⟨e1, rfl⟩, rfl⟩)
    go_ret
    exact ⟨(by (try unfold Ov); repeat (first | with_reducible exact ex_over | with_reducible exact over_self _ | with_reducible refine ex_undrew ?_ | with_reducible refine ex_into ?_ _ | with_reducible refine ex_alloc ?_ _ | with_reducible refine ex_drew ?_ | ((with_reducible refine ex_setCell ?_ ?_ _); rotate_left; (first | omega | (focus (simp; done)) | (focus (simp; omega)))) | ((with_reducible refine ex_chg ?_ _ ?_); rotate_left; (first | assumption | (exact Hid.out (by assumption)))) | exact ex_over)), rfl⟩
  obtain ⟨p1, p2, p3⟩ := rise_ok xs hx
  have HX := hid (fun W h => rising_any xs hx (by omega) a cap W h)
  generalize riseC xs = XS at *
  obtain ⟨n, hn, hnl⟩ : ∃ n : Nat, max z 0 % ((XS.length : Int) + 1) = (n : Int) ∧ n ≤ XS.length := by
    have h1 := Int.emod_nonneg (max z 0) (b := (XS.length : Int) + 1) (by omega)
    have h2 := Int.emod_lt_of_pos (max z 0) (b := (XS.length : Int) + 1) (by omega)
    exact ⟨(max z 0 % ((XS.length : Int) + 1)).toNat, by omega, by omega⟩
  have hpk : ∀ s ∈ XS.take n, s.wf := fun s hs => p1 s (List.mem_of_mem_take hs)
  have hgk : goodC En.zero (XS.take n) := by
    have h := p2; rw [← List.take_append_drop n XS, goodC_app] at h; exact h.1
  have HP := hid (fun a c W h1 h2 => (cof_any (XS.take n) hpk (by rw [List.length_take]; omega) a c W h1 h2).mono fun _ _ h => by rw [ofC_good hgk] at h; exact h.o)
  have HQ := hid (fun a c W h1 h2 => (cof_any XS p1 (by omega) a c W h1 h2).mono fun _ _ h => by rw [ofC_good p2] at h; exact h.o)
  rw [List.length_take, Nat.min_eq_left hnl] at HP
  have H1 := hid p1
  have H2 := hid p2
  obtain ⟨LA, hLA⟩ : ∃ LA, bitsC En.zero XS = LA := ⟨_, rfl⟩
  rw [hLA] at HQ
  have HLA := hid hLA
  obtain ⟨LN, hLN⟩ : ∃ LN, bitsC En.zero (XS.take n) = LN := ⟨_, rfl⟩
  rw [hLN] at HP
  have HLN := hid hLN
  obtain ⟨TN, hTN⟩ : ∃ TN, knowC En.zero (XS.take n) = TN := ⟨_, rfl⟩
  rw [hTN] at HP
  have HTN := hid hTN
  obtain ⟨TA, hTA⟩ : ∃ TA, knowC En.zero XS = TA := ⟨_, rfl⟩
  rw [hTA] at HQ
  clear hLA hLN hTN hTA p1 p2 hpk hgk
  go_enter Tryd.func13, Tryd.ntmps13
  go_wp2_with (first | (go_at_call 24; (with_reducible refine (HK.out _ (by repeat (first | with_reducible exact hT | with_reducible refine TabW.over ?_ _ | with_reducible refine TabW.alloc ?_ _ | with_reducible refine TabW.drew ?_ | ((with_reducible refine TabW.setCell ?_ ?_ _); rotate_left; (first | (focus (simp; done)) | (focus (simp; omega)))) | ((with_reducible refine TabW.chg ?_ _ ?_); rotate_left; (first | assumption | (focus (simp; done)) | (focus (simp; omega)))) | exact hT))).mono ?_); rintro _ _ ⟨⟨e1, rfl⟩, rfl⟩) | ((go_at_call 25; (with_reducible refine (HX.out _ (by repeat (first | with_reducible exact hs | with_reducible refine Sl.over ?_ _ | with_reducible refine Sl.alloc ?_ _ | with_reducible refine Sl.drew ?_ | exact hs))).mono ?_); rintro _ _ ⟨⟨e2, rfl⟩, v2, rfl, o2⟩; obtain ⟨a2, c2, rfl, s2⟩ := Own.slice Sm.cs_len o2; clear o2); have le2 : n ≤ c2 := Nat.le_trans hnl s2.le) | (go_at_call 26; (with_reducible refine (HP.out _ _ _ (by repeat (first | with_reducible exact hT | with_reducible refine TabW.over ?_ _ | with_reducible refine TabW.alloc ?_ _ | with_reducible refine TabW.drew ?_ | ((with_reducible refine TabW.setCell ?_ ?_ _); rotate_left; (first | (focus (simp; done)) | (focus (simp; omega)))) | ((with_reducible refine TabW.chg ?_ _ ?_); rotate_left; (first | assumption | (focus (simp; done)) | (focus (simp; omega)))) | exact hT)) (Sl.take (by repeat (first | with_reducible exact s2 | with_reducible refine Sl.over ?_ _ | with_reducible refine Sl.alloc ?_ _ | with_reducible refine Sl.drew ?_ | exact s2)) n)).mono ?_); rintro _ _ ⟨a4, c4, rfl, ⟨e4, rfl⟩, o4⟩; have s4 := (Own.slice' bcs_len o4).2) | (go_at_call 26; (with_reducible refine (HQ.out _ _ _ (by repeat (first | with_reducible exact hT | with_reducible refine TabW.over ?_ _ | with_reducible refine TabW.alloc ?_ _ | with_reducible refine TabW.drew ?_ | ((with_reducible refine TabW.setCell ?_ ?_ _); rotate_left; (first | (focus (simp; done)) | (focus (simp; omega)))) | ((with_reducible refine TabW.chg ?_ _ ?_); rotate_left; (first | assumption | (focus (simp; done)) | (focus (simp; omega)))) | exact hT)) (by repeat (first | with_reducible exact s2 | with_reducible refine Sl.over ?_ _ | with_reducible refine Sl.alloc ?_ _ | with_reducible refine Sl.drew ?_ | exact s2))).mono ?_); rintro _ _ ⟨a5, c5, rfl, ⟨e5, rfl⟩, o5⟩; have s5 := (Own.slice' bcs_len o5).2))
  have b5 : ∀ ad, a5 = some ad → w.heap.size + e1.heap.size + e2.heap.size + e4.heap.size + 1 + 1 ≤ ad.block ∧ ad.block < w.heap.size + e1.heap.size + e2.heap.size + e4.heap.size + 1 + 1 + e5.heap.size := fun ad h => by
    subst h
    have h1 := Own.lt o5 rfl
    simp at h1; omega
  refine gen_w ?_
  intro W0 hW0
  have O0 : Hid (∃ e, W0 = over w e) := hid (by rw [hW0]; exact (by (try unfold Ov); repeat (first | with_reducible exact ex_over | with_reducible exact over_self _ | with_reducible refine ex_undrew ?_ | with_reducible refine ex_into ?_ _ | with_reducible refine ex_alloc ?_ _ | with_reducible refine ex_drew ?_ | ((with_reducible refine ex_setCell ?_ ?_ _); rotate_left; (first | omega | (focus (simp; done)) | (focus (simp; omega)))) | ((with_reducible refine ex_chg ?_ _ ?_); rotate_left; (first | assumption | (exact Hid.out (by assumption)))) | exact ex_over)))
  have A7 : Hid (Blk W0 (w.heap.size + e1.heap.size + e2.heap.size + e4.heap.size) [.slice a4 (pack LN).length c4, .int .i64 (LN.length : Nat)] 29) := hid (by rw [hW0]; exact Blk.alloc (Blk.alloc (Blk.alloc (Blk.on (Blk.alloc (Blk.new' (by simp)) _) _) _) _) _)
  have A8 : Hid (Blk W0 (w.heap.size + e1.heap.size + e2.heap.size + e4.heap.size + 1) TN.cs 42) := hid (by rw [hW0]; exact Blk.alloc (Blk.alloc (Blk.alloc (Blk.on (Blk.new' (by simp)) _) _) _) _)
  have A10 : Hid (Blk W0 (w.heap.size + e1.heap.size + e2.heap.size + e4.heap.size + 1 + 1 + e5.heap.size) [.slice a5 (pack LA).length c5, .int .i64 (LA.length : Nat)] 29) := hid (by rw [hW0]; exact Blk.alloc (Blk.alloc (Blk.new' (by simp)) _) _)
  have A14 : Hid (Blk W0 (w.heap.size + e1.heap.size + e2.heap.size + e4.heap.size + 1 + 1 + e5.heap.size + 1 + 1) TN.cs 42) := hid (by rw [hW0]; exact Blk.new' (by simp))
  have O2 : Hid (Ov (over (over w e1) e2) W0) := hid (by rw [hW0]; exact (by (try unfold Ov); repeat (first | with_reducible exact ex_over | with_reducible exact over_self _ | with_reducible refine ex_undrew ?_ | with_reducible refine ex_into ?_ _ | with_reducible refine ex_alloc ?_ _ | with_reducible refine ex_drew ?_ | ((with_reducible refine ex_setCell ?_ ?_ _); rotate_left; (first | omega | (focus (simp; done)) | (focus (simp; omega)))) | ((with_reducible refine ex_chg ?_ _ ?_); rotate_left; (first | assumption | (exact Hid.out (by assumption)))) | exact ex_over)))
  have O4 : Hid (Ov (over (over (over w e1) e2) e4) W0) := hid (by rw [hW0]; exact (by (try unfold Ov); repeat (first | with_reducible exact ex_over | with_reducible exact over_self _ | with_reducible refine ex_undrew ?_ | with_reducible refine ex_into ?_ _ | with_reducible refine ex_alloc ?_ _ | with_reducible refine ex_drew ?_ | ((with_reducible refine ex_setCell ?_ ?_ _); rotate_left; (first | omega | (focus (simp; done)) | (focus (simp; omega)))) | ((with_reducible refine ex_chg ?_ _ ?_); rotate_left; (first | assumption | (exact Hid.out (by assumption)))) | exact ex_over)))
  have S5 : Hid (SlB W0 a5 c5 (pack LA)) := hid (by rw [hW0]; exact (by repeat (first | with_reducible exact s5 | with_reducible refine Sl.over ?_ _ | with_reducible refine Sl.alloc ?_ _ | with_reducible refine Sl.drew ?_ | exact s5)))
  have HT0 : Hid (TabW W0) := hid (TabW.ov hT O0.out)
  clear hW0
  obtain ⟨p7, hp7⟩ : ∃ p, p = w.heap.size + e1.heap.size + e2.heap.size + e4.heap.size := ⟨_, rfl⟩
  rw [← hp7] at A7 A8 A10 A14 b5 ⊢
  obtain ⟨p8, hp8⟩ : ∃ p, p = p7 + 1 := ⟨_, rfl⟩
  rw [← hp8] at A8 A10 A14 b5 ⊢
  obtain ⟨p10, hp10⟩ : ∃ p, p = p8 + 1 + e5.heap.size := ⟨_, rfl⟩
  rw [← hp10] at A10 A14 b5 ⊢
  obtain ⟨p14, hp14⟩ : ∃ p, p = p10 + 1 + 1 := ⟨_, rfl⟩
  rw [← hp14] at A14 ⊢
  have hpos : 0 < w.heap.size := hT.1
  obtain ⟨F, hF⟩ : ∃ F, F = [p7, p8, p14] := ⟨_, rfl⟩
  have m7 : p7 ∈ F := by rw [hF]; simp
  have m8 : p8 ∈ F := by rw [hF]; simp
  have m14 : p14 ∈ F := by rw [hF]; simp
  have m10 : p10 ∉ F := by rw [hF]; simp; omega
  have h0F : 0 ∉ F := by rw [hF]; simp; omega
  have hF1 : Hid (∀ i ∈ F, w.heap.size ≤ i) := hid (by rw [hF]; simp; omega)
  have hF2 : Hid (∀ i ∈ F, i < W0.heap.size) := hid (by rw [hF]; have := A7.out.lt; have := A8.out.lt; have := A14.out.lt; simp; omega)
  have HS2 : Hid (∀ W, Chg F W0 W → SlM W a2 c2 XS) := hid (fun W hc => Sl.chg_old s2 O2.out hc (by rw [hF]; simp; omega))
  have HS4 : Hid (∀ W, Chg F W0 W → SlB W a4 c4 (pack LN)) := hid (fun W hc => Sl.chg_old s4 O4.out hc (by rw [hF]; simp; omega))
  have HA : Hid (∀ W, Chg F W0 W → SlB W a5 c5 (pack LA)) := hid (fun W hc => Sl.chg S5.out hc (fun ad hd => by have := b5 ad hd; rw [hF]; simp; omega))
  have n78 : ¬ p7 = p8 := by omega
  have n87 : ¬ p8 = p7 := by omega
  have n714 : ¬ p7 = p14 := by omega
  have n147 : ¬ p14 = p7 := by omega
  have n814 : ¬ p8 = p14 := by omega
  have n148 : ¬ p14 = p8 := by omega
  have h40 : XS.length ≤ 40 := by omega
  clear hF hp7 hp8 hp10 hp14 b5 S5 O2 O4 s2 s4 s5 o4 o5 le2 HP HQ HX HK hs hx p3
  go_loopw [13, 15] (fun at_ i wr => ∃ (k : Nat), k ≤ XS.length ∧ i = .int .i64 (k : Nat) ∧ at_ = .int .i64 ((bitsC En.zero (XS.take k)).length : Nat) ∧ GoRel W0 F p7 p8 p14 XS k wr) (fun _ i _ => XS.length - (intOf i).toNat)
  case atStart =>
    have e1 := HLN.out
    have e2 := HTN.out
    subst e1 e2
    exact ⟨n, hnl, rfl, rfl, ⟨Chg.refl _ _, ⟨a4, c4, A7.out, HS4.out⟩, A8.out, A14.out⟩⟩
  case round =>
    obtain ⟨k, hk, rfl, rfl, ⟨hcls, ⟨a3, c3, hb7, hs7⟩, hb8, hb14⟩⟩ := hrel
    have C := hid hcls
    have HB7 := hid hb7
    have HB8 := hid hb8
    have HB14 := hid hb14
    have HS7 := hid hs7
    have HB10 : Hid (Blk wr p10 [.slice a5 (pack LA).length c5, .int .i64 (LA.length : Nat)] 29) := hid (Blk.chg A10.out hcls m10)
    clear hcls hb7 hb8 hb14 hs7
    have hwW0 : W0.heap.size ≤ wr.heap.size := C.out.size
    have r70 := HB7.out.cell 0 rfl
    have r71 := HB7.out.cell 1 rfl
    have g70 := HB7.out.free 0
    have g71 := HB7.out.free 1
    have l7 := HB7.out.lt
    have r80 := HB8.out.cell 0 rfl
    have r81 := HB8.out.cell 1 rfl
    have r82 := HB8.out.cell 2 rfl
    have r83 := HB8.out.cell 3 rfl
    have r84 := HB8.out.cell 4 rfl
    have r85 := HB8.out.cell 5 rfl
    have r86 := HB8.out.cell 6 rfl
    have g80 := HB8.out.free 0
    have g81 := HB8.out.free 1
    have g82 := HB8.out.free 2
    have g83 := HB8.out.free 3
    have g84 := HB8.out.free 4
    have g85 := HB8.out.free 5
    have g86 := HB8.out.free 6
    have l8 := HB8.out.lt
    have r140 := HB14.out.cell 0 rfl
    have r141 := HB14.out.cell 1 rfl
    have r142 := HB14.out.cell 2 rfl
    have r143 := HB14.out.cell 3 rfl
    have r144 := HB14.out.cell 4 rfl
    have r145 := HB14.out.cell 5 rfl
    have r146 := HB14.out.cell 6 rfl
    have g140 := HB14.out.free 0
    have g141 := HB14.out.free 1
    have g142 := HB14.out.free 2
    have g143 := HB14.out.free 3
    have g144 := HB14.out.free 4
    have g145 := HB14.out.free 5
    have g146 := HB14.out.free 6
    have l14 := HB14.out.lt
    have r100 := HB10.out.cell 0 rfl
    have r101 := HB10.out.cell 1 rfl
    have l10 := HB10.out.lt
    have hxk : ∀ s ∈ XS.take k, s.wf := fun s hs => H1.out s (List.mem_of_mem_take hs)
    have hkn := knowZ hxk (by rw [List.length_take]; omega)
    have hbl := bitsZ_len hxk (by rw [List.length_take]; omega)
    rw [List.length_take, Nat.min_eq_left hk] at hbl
    have hbA := bitsZ_len H1.out (by omega)
    rw [HLA.out] at hbA
    by_cases hlt : k < XS.length
    · obtain ⟨b6, o6, rfl, hbr, kr0, kr1⟩ := SlM.at_ (HS2.out wr C.out) hlt
      have hv := H1.out XS[k] (List.getElem_mem hlt)
      have hwr := knowC_snoc En.zero (XS.take k) XS[k]
      have hwr2 := bitsC_snoc En.zero (XS.take k) XS[k]
      have hwr3 := goodC_snoc En.zero (XS.take k) XS[k]
      rw [← takeC_get hlt] at hwr hwr2 hwr3
      have hgt : goodC En.zero (XS.take (k + 1)) := by
        have h := H2.out; rw [← List.take_append_drop (k + 1) XS, goodC_app] at h; exact h.1
      have hc := (hwr3.1 hgt).2
      have hat := getC_at H1.out (by omega) H2.out hlt
      rw [HLA.out] at hat
      obtain ⟨t', ht'⟩ : ∃ t', knowC En.zero (XS.take (k + 1)) = t' := ⟨_, rfl⟩
      obtain ⟨L', hL'⟩ : ∃ L', bitsC En.zero (XS.take (k + 1)) = L' := ⟨_, rfl⟩
      rw [ht', hL'] at hat
      rw [hL'] at hwr2
      rw [ht'] at hwr
      have HT' := hid ht'
      have HL' := hid hL'
      generalize knowC En.zero (XS.take k) = t at *
      generalize bitsC En.zero (XS.take k) = L at *
      have HP := hid (fun W h1 h2 => cput_yes L (by omega) a3 c3 t hkn.2.1 hkn.1 XS[k].t hv.1 hc XS[k].v hv.2 W h1 h2)
      rw [← hwr, ← hwr2] at HP
      have HG := hid (fun W h1 h2 => cget_yes LA (by omega) a5 c5 (L.length : Nat) (by unfold i64ok; omega) t hkn.2.1 hkn.1 W h1 h2)
      rw [hat] at HG
      have HG' : Hid (∀ W, TabW W → SlB W a5 c5 (pack LA) → Calls Tryd.prog 34 #[bv a5 (pack LA).length c5 LA.length, .int .i64 (L.length : Nat), t.v] W (Ret W (.tuple #[smV XS[k].t XS[k].v, .int .i64 (L'.length : Nat), t'.v, .int .u16 0]))) := HG
      clear HG hwr hwr2 hwr3 hgt hc hat ht' hL' hkn hxk hbl hbA hv
      obtain ⟨x, hx6⟩ : ∃ x, XS[k] = x := ⟨_, rfl⟩
      have HX6 := hid hx6
      rw [hx6] at HP HG' kr0 kr1
      clear hx6
      have hb4' : Hid (∀ i ∈ F, i < wr.heap.size) := hid (fun i hi => by have := hF2.out i hi; omega)
      go_wp2_with fail
      refine M2.wp_region_tree (fun w' => ∃ e : World, w' = over _ e) [6, 11, 12, 13, 14] (.q 0 (.q 1 (.q 2 (.q 3 (.q 4 (.q 5 (.e 6 (.q 7 (.q 8 (.q 9 (.q 10 (.e 11 (.e 12 (.e 13 (.e 14 (.q 15 .done) .no) .no) .no) (.e 12 (.e 11 (.e 13 (.e 14 (.q 15 .done) .no) .no) .no) .no)))))) (.e 11 (.e 6 (.q 7 (.q 8 (.q 9 (.q 10 (.e 12 (.e 13 (.e 14 (.q 15 .done) .no) .no) .no))))) (.e 12 (.e 6 (.q 7 (.q 8 (.q 9 (.q 10 (.e 13 (.e 14 (.q 15 .done) .no) .no))))) .no) .no)) (.e 12 (.e 6 (.q 7 (.q 8 (.q 9 (.q 10 (.e 11 (.e 13 (.e 14 (.q 15 .done) .no) .no) .no))))) (.e 11 (.e 6 (.q 7 (.q 8 (.q 9 (.q 10 (.e 13 (.e 14 (.q 15 .done) .no) .no))))) .no) .no)) .no))))))))) (by kernel_rfl) (by kernel_rfl) (ex_drew (over_self _)) ?_
      refine M2.tree_q (k := 0) rfl rfl ?_
      go_big_quiet_step (fail)
      with_reducible refine wpQuiet_nil ?_
      refine M2.tree_q (k := 1) rfl rfl ?_
      go_big_quiet_step (fail)
      with_reducible refine wpQuiet_nil ?_
      refine M2.tree_q (k := 2) rfl rfl ?_
      go_big_quiet_step (fail)
      with_reducible refine wpQuiet_nil ?_
      refine M2.tree_q (k := 3) rfl rfl ?_
      go_big_quiet_step (fail)
      with_reducible refine wpQuiet_nil ?_
      refine M2.tree_q (k := 4) rfl rfl ?_
      go_big_quiet_step (fail)
      with_reducible refine wpQuiet_nil ?_
      refine M2.tree_q (k := 5) rfl rfl ?_
      go_big_quiet_step (fail)
      with_reducible refine wpQuiet_nil ?_
      refine M2.tree_e (k := 6) rfl ?_ ?_
      · go_wp2_with ((go_at_call 28; (with_reducible refine (HP.out _ (TabW.ch HT0.out (by repeat (first | with_reducible exact C.out | (focus (refine ChS.chg ?_; (repeat (first | with_reducible exact ChS.refl _ _ | with_reducible refine ChS.drewl ?_ | with_reducible refine ChS.drewr ?_ | with_reducible refine ChS.over ?_ _ | with_reducible refine chS_chgs ?_ _ | ((with_reducible refine chS_set ?_ _ ?_ _); rotate_left; (first | assumption | (focus (simp; done)) | (focus (simp; assumption)))) | with_reducible refine ChS.alloc ?_ _ | ((with_reducible refine ChS.lit ?_ ?_ _ _); rotate_left; (first | assumption | (focus (simp; done)) | (focus (simp; assumption)))) | with_reducible refine ChS.alloc ?_ _)); done)) | with_reducible refine Chg.alloc ?_ _ | with_reducible refine Chg.drew ?_ | with_reducible refine Chg.on ?_ _ | ((with_reducible refine Chg.setCell ?_ ?_ _); rotate_left; (first | (focus (left; assumption)) | (focus (left; simp; done)) | (focus (right; simp; done)) | (focus (right; simp; omega)) | (focus (left; simp; omega)))) | ((with_reducible refine Chg.in_ ?_ _ ?_); rotate_left; (first | assumption | (focus (intro i hi; left; simp at hi; subst hi; assumption)) | exact fun i hi => Or.inl hi | (focus (intro i hi; left; simp [hi]; done)) | (focus (intro i hi; left; simp at hi ⊢; simp [hi]; done)) | (focus (intro i hi; simp at hi ⊢; simp [hi]; done)) | (focus (intro i hi; simp at hi ⊢; omega)))))) h0F) (HS7.out _ (by repeat (first | with_reducible exact Chg.refl _ _ | (focus (refine ChS.chg ?_; (repeat (first | with_reducible exact ChS.refl _ _ | with_reducible refine ChS.drewl ?_ | with_reducible refine ChS.drewr ?_ | with_reducible refine ChS.over ?_ _ | with_reducible refine chS_chgs ?_ _ | ((with_reducible refine chS_set ?_ _ ?_ _); rotate_left; (first | assumption | (focus (simp; done)) | (focus (simp; assumption)))) | with_reducible refine ChS.alloc ?_ _ | ((with_reducible refine ChS.lit ?_ ?_ _ _); rotate_left; (first | assumption | (focus (simp; done)) | (focus (simp; assumption)))) | with_reducible refine ChS.alloc ?_ _)); done)) | with_reducible refine Chg.alloc ?_ _ | with_reducible refine Chg.drew ?_ | with_reducible refine Chg.on ?_ _ | ((with_reducible refine Chg.setCell ?_ ?_ _); rotate_left; (first | (focus (left; assumption)) | (focus (left; simp; done)) | (focus (right; simp; done)) | (focus (right; simp; omega)) | (focus (left; simp; omega)))) | ((with_reducible refine Chg.in_ ?_ _ ?_); rotate_left; (first | assumption | (focus (intro i hi; left; simp at hi; subst hi; assumption)) | exact fun i hi => Or.inl hi | (focus (intro i hi; left; simp [hi]; done)) | (focus (intro i hi; left; simp at hi ⊢; simp [hi]; done)) | (focus (intro i hi; simp at hi ⊢; simp [hi]; done)) | (focus (intro i hi; simp at hi ⊢; omega)))))))).mono ?_); rintro _ _ ⟨a7, c7, rfl, ⟨e7, rfl⟩, ho7⟩; have HO7 := hid ho7; clear ho7))
        refine M2.TreeQ.mk (by (try unfold Ov); repeat (first | with_reducible exact ex_over | with_reducible exact over_self _ | with_reducible refine ex_undrew ?_ | with_reducible refine ex_into ?_ _ | with_reducible refine ex_alloc ?_ _ | with_reducible refine ex_drew ?_ | ((with_reducible refine ex_setCell ?_ ?_ _); rotate_left; (first | omega | (focus (simp; done)) | (focus (simp; omega)))) | ((with_reducible refine ex_chg ?_ _ ?_); rotate_left; (first | assumption | (exact Hid.out (by assumption)))) | exact ex_over)) ?_
        refine M2.tree_q (k := 7) rfl rfl ?_
        go_big_quiet_step (fail)
        with_reducible refine wpQuiet_nil ?_
        refine M2.tree_q (k := 8) rfl rfl ?_
        go_big_quiet_step (fail)
        with_reducible refine wpQuiet_nil ?_
        refine M2.tree_q (k := 9) rfl rfl ?_
        go_big_quiet_step (fail)
        with_reducible refine wpQuiet_nil ?_
        refine M2.tree_q (k := 10) rfl rfl ?_
        go_big_quiet_step (fail)
        with_reducible refine wpQuiet_nil ?_
        refine M2.tree_e (k := 11) rfl ?_ ?_
        · go_wp2_with ((go_at_call 28; (with_reducible refine (HP.out _ (TabW.ch HT0.out (by repeat (first | with_reducible exact C.out | (focus (refine ChS.chg ?_; (repeat (first | with_reducible exact ChS.refl _ _ | with_reducible refine ChS.drewl ?_ | with_reducible refine ChS.drewr ?_ | with_reducible refine ChS.over ?_ _ | with_reducible refine chS_chgs ?_ _ | ((with_reducible refine chS_set ?_ _ ?_ _); rotate_left; (first | assumption | (focus (simp; done)) | (focus (simp; assumption)))) | with_reducible refine ChS.alloc ?_ _ | ((with_reducible refine ChS.lit ?_ ?_ _ _); rotate_left; (first | assumption | (focus (simp; done)) | (focus (simp; assumption)))) | with_reducible refine ChS.alloc ?_ _)); done)) | with_reducible refine Chg.alloc ?_ _ | with_reducible refine Chg.drew ?_ | with_reducible refine Chg.on ?_ _ | ((with_reducible refine Chg.setCell ?_ ?_ _); rotate_left; (first | (focus (left; assumption)) | (focus (left; simp; done)) | (focus (right; simp; done)) | (focus (right; simp; omega)) | (focus (left; simp; omega)))) | ((with_reducible refine Chg.in_ ?_ _ ?_); rotate_left; (first | assumption | (focus (intro i hi; left; simp at hi; subst hi; assumption)) | exact fun i hi => Or.inl hi | (focus (intro i hi; left; simp [hi]; done)) | (focus (intro i hi; left; simp at hi ⊢; simp [hi]; done)) | (focus (intro i hi; simp at hi ⊢; simp [hi]; done)) | (focus (intro i hi; simp at hi ⊢; omega)))))) h0F) (HS7.out _ (by repeat (first | with_reducible exact Chg.refl _ _ | (focus (refine ChS.chg ?_; (repeat (first | with_reducible exact ChS.refl _ _ | with_reducible refine ChS.drewl ?_ | with_reducible refine ChS.drewr ?_ | with_reducible refine ChS.over ?_ _ | with_reducible refine chS_chgs ?_ _ | ((with_reducible refine chS_set ?_ _ ?_ _); rotate_left; (first | assumption | (focus (simp; done)) | (focus (simp; assumption)))) | with_reducible refine ChS.alloc ?_ _ | ((with_reducible refine ChS.lit ?_ ?_ _ _); rotate_left; (first | assumption | (focus (simp; done)) | (focus (simp; assumption)))) | with_reducible refine ChS.alloc ?_ _)); done)) | with_reducible refine Chg.alloc ?_ _ | with_reducible refine Chg.drew ?_ | with_reducible refine Chg.on ?_ _ | ((with_reducible refine Chg.setCell ?_ ?_ _); rotate_left; (first | (focus (left; assumption)) | (focus (left; simp; done)) | (focus (right; simp; done)) | (focus (right; simp; omega)) | (focus (left; simp; omega)))) | ((with_reducible refine Chg.in_ ?_ _ ?_); rotate_left; (first | assumption | (focus (intro i hi; left; simp at hi; subst hi; assumption)) | exact fun i hi => Or.inl hi | (focus (intro i hi; left; simp [hi]; done)) | (focus (intro i hi; left; simp at hi ⊢; simp [hi]; done)) | (focus (intro i hi; simp at hi ⊢; simp [hi]; done)) | (focus (intro i hi; simp at hi ⊢; omega)))))))).mono ?_); rintro _ _ ⟨a7, c7, rfl, ⟨e7, rfl⟩, ho7⟩; have HO7 := hid ho7; clear ho7))
          refine M2.TreeQ.mk (by (try unfold Ov); repeat (first | with_reducible exact ex_over | with_reducible exact over_self _ | with_reducible refine ex_undrew ?_ | with_reducible refine ex_into ?_ _ | with_reducible refine ex_alloc ?_ _ | with_reducible refine ex_drew ?_ | ((with_reducible refine ex_setCell ?_ ?_ _); rotate_left; (first | omega | (focus (simp; done)) | (focus (simp; omega)))) | ((with_reducible refine ex_chg ?_ _ ?_); rotate_left; (first | assumption | (exact Hid.out (by assumption)))) | exact ex_over)) ?_
          refine M2.tree_e (k := 12) rfl ?_ ?_
          · go_wp2_with ((go_at_call 28; (with_reducible refine (HP.out _ (TabW.ch HT0.out (by repeat (first | with_reducible exact C.out | (focus (refine ChS.chg ?_; (repeat (first | with_reducible exact ChS.refl _ _ | with_reducible refine ChS.drewl ?_ | with_reducible refine ChS.drewr ?_ | with_reducible refine ChS.over ?_ _ | with_reducible refine chS_chgs ?_ _ | ((with_reducible refine chS_set ?_ _ ?_ _); rotate_left; (first | assumption | (focus (simp; done)) | (focus (simp; assumption)))) | with_reducible refine ChS.alloc ?_ _ | ((with_reducible refine ChS.lit ?_ ?_ _ _); rotate_left; (first | assumption | (focus (simp; done)) | (focus (simp; assumption)))) | with_reducible refine ChS.alloc ?_ _)); done)) | with_reducible refine Chg.alloc ?_ _ | with_reducible refine Chg.drew ?_ | with_reducible refine Chg.on ?_ _ | ((with_reducible refine Chg.setCell ?_ ?_ _); rotate_left; (first | (focus (left; assumption)) | (focus (left; simp; done)) | (focus (right; simp; done)) | (focus (right; simp; omega)) | (focus (left; simp; omega)))) | ((with_reducible refine Chg.in_ ?_ _ ?_); rotate_left; (first | assumption | (focus (intro i hi; left; simp at hi; subst hi; assumption)) | exact fun i hi => Or.inl hi | (focus (intro i hi; left; simp [hi]; done)) | (focus (intro i hi; left; simp at hi ⊢; simp [hi]; done)) | (focus (intro i hi; simp at hi ⊢; simp [hi]; done)) | (focus (intro i hi; simp at hi ⊢; omega)))))) h0F) (HS7.out _ (by repeat (first | with_reducible exact Chg.refl _ _ | (focus (refine ChS.chg ?_; (repeat (first | with_reducible exact ChS.refl _ _ | with_reducible refine ChS.drewl ?_ | with_reducible refine ChS.drewr ?_ | with_reducible refine ChS.over ?_ _ | with_reducible refine chS_chgs ?_ _ | ((with_reducible refine chS_set ?_ _ ?_ _); rotate_left; (first | assumption | (focus (simp; done)) | (focus (simp; assumption)))) | with_reducible refine ChS.alloc ?_ _ | ((with_reducible refine ChS.lit ?_ ?_ _ _); rotate_left; (first | assumption | (focus (simp; done)) | (focus (simp; assumption)))) | with_reducible refine ChS.alloc ?_ _)); done)) | with_reducible refine Chg.alloc ?_ _ | with_reducible refine Chg.drew ?_ | with_reducible refine Chg.on ?_ _ | ((with_reducible refine Chg.setCell ?_ ?_ _); rotate_left; (first | (focus (left; assumption)) | (focus (left; simp; done)) | (focus (right; simp; done)) | (focus (right; simp; omega)) | (focus (left; simp; omega)))) | ((with_reducible refine Chg.in_ ?_ _ ?_); rotate_left; (first | assumption | (focus (intro i hi; left; simp at hi; subst hi; assumption)) | exact fun i hi => Or.inl hi | (focus (intro i hi; left; simp [hi]; done)) | (focus (intro i hi; left; simp at hi ⊢; simp [hi]; done)) | (focus (intro i hi; simp at hi ⊢; simp [hi]; done)) | (focus (intro i hi; simp at hi ⊢; omega)))))))).mono ?_); rintro _ _ ⟨a7, c7, rfl, ⟨e7, rfl⟩, ho7⟩; have HO7 := hid ho7; clear ho7))
            refine M2.TreeQ.mk (by (try unfold Ov); repeat (first | with_reducible exact ex_over | with_reducible exact over_self _ | with_reducible refine ex_undrew ?_ | with_reducible refine ex_into ?_ _ | with_reducible refine ex_alloc ?_ _ | with_reducible refine ex_drew ?_ | ((with_reducible refine ex_setCell ?_ ?_ _); rotate_left; (first | omega | (focus (simp; done)) | (focus (simp; omega)))) | ((with_reducible refine ex_chg ?_ _ ?_); rotate_left; (first | assumption | (exact Hid.out (by assumption)))) | exact ex_over)) ?_
            refine M2.tree_e (k := 13) rfl ?_ ?_
            · go_wp2_with ((go_at_call 28; (with_reducible refine (HP.out _ (TabW.ch HT0.out (by repeat (first | with_reducible exact C.out | (focus (refine ChS.chg ?_; (repeat (first | with_reducible exact ChS.refl _ _ | with_reducible refine ChS.drewl ?_ | with_reducible refine ChS.drewr ?_ | with_reducible refine ChS.over ?_ _ | with_reducible refine chS_chgs ?_ _ | ((with_reducible refine chS_set ?_ _ ?_ _); rotate_left; (first | assumption | (focus (simp; done)) | (focus (simp; assumption)))) | with_reducible refine ChS.alloc ?_ _ | ((with_reducible refine ChS.lit ?_ ?_ _ _); rotate_left; (first | assumption | (focus (simp; done)) | (focus (simp; assumption)))) | with_reducible refine ChS.alloc ?_ _)); done)) | with_reducible refine Chg.alloc ?_ _ | with_reducible refine Chg.drew ?_ | with_reducible refine Chg.on ?_ _ | ((with_reducible refine Chg.setCell ?_ ?_ _); rotate_left; (first | (focus (left; assumption)) | (focus (left; simp; done)) | (focus (right; simp; done)) | (focus (right; simp; omega)) | (focus (left; simp; omega)))) | ((with_reducible refine Chg.in_ ?_ _ ?_); rotate_left; (first | assumption | (focus (intro i hi; left; simp at hi; subst hi; assumption)) | exact fun i hi => Or.inl hi | (focus (intro i hi; left; simp [hi]; done)) | (focus (intro i hi; left; simp at hi ⊢; simp [hi]; done)) | (focus (intro i hi; simp at hi ⊢; simp [hi]; done)) | (focus (intro i hi; simp at hi ⊢; omega)))))) h0F) (HS7.out _ (by repeat (first | with_reducible exact Chg.refl _ _ | (focus (refine ChS.chg ?_; (repeat (first | with_reducible exact ChS.refl _ _ | with_reducible refine ChS.drewl ?_ | with_reducible refine ChS.drewr ?_ | with_reducible refine ChS.over ?_ _ | with_reducible refine chS_chgs ?_ _ | ((with_reducible refine chS_set ?_ _ ?_ _); rotate_left; (first | assumption | (focus (simp; done)) | (focus (simp; assumption)))) | with_reducible refine ChS.alloc ?_ _ | ((with_reducible refine ChS.lit ?_ ?_ _ _); rotate_left; (first | assumption | (focus (simp; done)) | (focus (simp; assumption)))) | with_reducible refine ChS.alloc ?_ _)); done)) | with_reducible refine Chg.alloc ?_ _ | with_reducible refine Chg.drew ?_ | with_reducible refine Chg.on ?_ _ | ((with_reducible refine Chg.setCell ?_ ?_ _); rotate_left; (first | (focus (left; assumption)) | (focus (left; simp; done)) | (focus (right; simp; done)) | (focus (right; simp; omega)) | (focus (left; simp; omega)))) | ((with_reducible refine Chg.in_ ?_ _ ?_); rotate_left; (first | assumption | (focus (intro i hi; left; simp at hi; subst hi; assumption)) | exact fun i hi => Or.inl hi | (focus (intro i hi; left; simp [hi]; done)) | (focus (intro i hi; left; simp at hi ⊢; simp [hi]; done)) | (focus (intro i hi; simp at hi ⊢; simp [hi]; done)) | (focus (intro i hi; simp at hi ⊢; omega)))))))).mono ?_); rintro _ _ ⟨a7, c7, rfl, ⟨e7, rfl⟩, ho7⟩; have HO7 := hid ho7; clear ho7))
              refine M2.TreeQ.mk (by (try unfold Ov); repeat (first | with_reducible exact ex_over | with_reducible exact over_self _ | with_reducible refine ex_undrew ?_ | with_reducible refine ex_into ?_ _ | with_reducible refine ex_alloc ?_ _ | with_reducible refine ex_drew ?_ | ((with_reducible refine ex_setCell ?_ ?_ _); rotate_left; (first | omega | (focus (simp; done)) | (focus (simp; omega)))) | ((with_reducible refine ex_chg ?_ _ ?_); rotate_left; (first | assumption | (exact Hid.out (by assumption)))) | exact ex_over)) ?_
              refine M2.tree_e (k := 14) rfl ?_ ?_
              · go_wp2_with ((go_at_call 28; (with_reducible refine (HP.out _ (TabW.ch HT0.out (by repeat (first | with_reducible exact C.out | (focus (refine ChS.chg ?_; (repeat (first | with_reducible exact ChS.refl _ _ | with_reducible refine ChS.drewl ?_ | with_reducible refine ChS.drewr ?_ | with_reducible refine ChS.over ?_ _ | with_reducible refine chS_chgs ?_ _ | ((with_reducible refine chS_set ?_ _ ?_ _); rotate_left; (first | assumption | (focus (simp; done)) | (focus (simp; assumption)))) | with_reducible refine ChS.alloc ?_ _ | ((with_reducible refine ChS.lit ?_ ?_ _ _); rotate_left; (first | assumption | (focus (simp; done)) | (focus (simp; assumption)))) | with_reducible refine ChS.alloc ?_ _)); done)) | with_reducible refine Chg.alloc ?_ _ | with_reducible refine Chg.drew ?_ | with_reducible refine Chg.on ?_ _ | ((with_reducible refine Chg.setCell ?_ ?_ _); rotate_left; (first | (focus (left; assumption)) | (focus (left; simp; done)) | (focus (right; simp; done)) | (focus (right; simp; omega)) | (focus (left; simp; omega)))) | ((with_reducible refine Chg.in_ ?_ _ ?_); rotate_left; (first | assumption | (focus (intro i hi; left; simp at hi; subst hi; assumption)) | exact fun i hi => Or.inl hi | (focus (intro i hi; left; simp [hi]; done)) | (focus (intro i hi; left; simp at hi ⊢; simp [hi]; done)) | (focus (intro i hi; simp at hi ⊢; simp [hi]; done)) | (focus (intro i hi; simp at hi ⊢; omega)))))) h0F) (HS7.out _ (by repeat (first | with_reducible exact Chg.refl _ _ | (focus (refine ChS.chg ?_; (repeat (first | with_reducible exact ChS.refl _ _ | with_reducible refine ChS.drewl ?_ | with_reducible refine ChS.drewr ?_ | with_reducible refine ChS.over ?_ _ | with_reducible refine chS_chgs ?_ _ | ((with_reducible refine chS_set ?_ _ ?_ _); rotate_left; (first | assumption | (focus (simp; done)) | (focus (simp; assumption)))) | with_reducible refine ChS.alloc ?_ _ | ((with_reducible refine ChS.lit ?_ ?_ _ _); rotate_left; (first | assumption | (focus (simp; done)) | (focus (simp; assumption)))) | with_reducible refine ChS.alloc ?_ _)); done)) | with_reducible refine Chg.alloc ?_ _ | with_reducible refine Chg.drew ?_ | with_reducible refine Chg.on ?_ _ | ((with_reducible refine Chg.setCell ?_ ?_ _); rotate_left; (first | (focus (left; assumption)) | (focus (left; simp; done)) | (focus (right; simp; done)) | (focus (right; simp; omega)) | (focus (left; simp; omega)))) | ((with_reducible refine Chg.in_ ?_ _ ?_); rotate_left; (first | assumption | (focus (intro i hi; left; simp at hi; subst hi; assumption)) | exact fun i hi => Or.inl hi | (focus (intro i hi; left; simp [hi]; done)) | (focus (intro i hi; left; simp at hi ⊢; simp [hi]; done)) | (focus (intro i hi; simp at hi ⊢; simp [hi]; done)) | (focus (intro i hi; simp at hi ⊢; omega)))))))).mono ?_); rintro _ _ ⟨a7, c7, rfl, ⟨e7, rfl⟩, ho7⟩; have HO7 := hid ho7; clear ho7))
                refine M2.TreeQ.mk (by (try unfold Ov); repeat (first | with_reducible exact ex_over | with_reducible exact over_self _ | with_reducible refine ex_undrew ?_ | with_reducible refine ex_into ?_ _ | with_reducible refine ex_alloc ?_ _ | with_reducible refine ex_drew ?_ | ((with_reducible refine ex_setCell ?_ ?_ _); rotate_left; (first | omega | (focus (simp; done)) | (focus (simp; omega)))) | ((with_reducible refine ex_chg ?_ _ ?_); rotate_left; (first | assumption | (exact Hid.out (by assumption)))) | exact ex_over)) ?_
                refine M2.tree_q (k := 15) rfl rfl ?_
                go_big_quiet_step (fail)
                with_reducible refine wpQuiet_nil ?_
                refine M2.tree_done ?_
                refine gen_w ?_
                intro W7 hW7
                have C7 : Hid (Chg F W0 W7) := hid (by rw [hW7]; exact (by repeat (first | with_reducible exact C.out | (focus (refine ChS.chg ?_; (repeat (first | with_reducible exact ChS.refl _ _ | with_reducible refine ChS.drewl ?_ | with_reducible refine ChS.drewr ?_ | with_reducible refine ChS.over ?_ _ | with_reducible refine chS_chgs ?_ _ | ((with_reducible refine chS_set ?_ _ ?_ _); rotate_left; (first | assumption | (focus (simp; done)) | (focus (simp; assumption)))) | with_reducible refine ChS.alloc ?_ _ | ((with_reducible refine ChS.lit ?_ ?_ _ _); rotate_left; (first | assumption | (focus (simp; done)) | (focus (simp; assumption)))) | with_reducible refine ChS.alloc ?_ _)); done)) | with_reducible refine Chg.alloc ?_ _ | with_reducible refine Chg.drew ?_ | with_reducible refine Chg.on ?_ _ | ((with_reducible refine Chg.setCell ?_ ?_ _); rotate_left; (first | (focus (left; assumption)) | (focus (left; simp; done)) | (focus (right; simp; done)) | (focus (right; simp; omega)) | (focus (left; simp; omega)))) | ((with_reducible refine Chg.in_ ?_ _ ?_); rotate_left; (first | assumption | (focus (intro i hi; left; simp at hi; subst hi; assumption)) | exact fun i hi => Or.inl hi | (focus (intro i hi; left; simp [hi]; done)) | (focus (intro i hi; left; simp at hi ⊢; simp [hi]; done)) | (focus (intro i hi; simp at hi ⊢; simp [hi]; done)) | (focus (intro i hi; simp at hi ⊢; omega)))))))
                have D7 : Hid (Blk W7 p7 [.slice a3 (pack L).length c3, .int .i64 (L.length : Nat)] 29) := hid (by rw [hW7]; exact (by repeat (first | with_reducible exact HB7.out | with_reducible refine Blk.alloc ?_ _ | with_reducible refine Blk.drew ?_ | with_reducible refine Blk.on ?_ _ | ((with_reducible refine Blk.chg ?_ (chg_chg _ _ _) ?_); rotate_left; (first | assumption | (focus (simp; done)) | (focus (simp; omega)))) | with_reducible refine Blk.set ?_ _ _ | ((with_reducible refine Blk.set_ne ?_ ?_ _); rotate_left; (first | assumption | (focus (simp; done)) | (focus (simp; omega)))))))
                have D8 : Hid (Blk W7 p8 t.cs 42) := hid (by rw [hW7]; exact (by repeat (first | with_reducible exact HB8.out | with_reducible refine Blk.alloc ?_ _ | with_reducible refine Blk.drew ?_ | with_reducible refine Blk.on ?_ _ | ((with_reducible refine Blk.chg ?_ (chg_chg _ _ _) ?_); rotate_left; (first | assumption | (focus (simp; done)) | (focus (simp; omega)))) | with_reducible refine Blk.set ?_ _ _ | ((with_reducible refine Blk.set_ne ?_ ?_ _); rotate_left; (first | assumption | (focus (simp; done)) | (focus (simp; omega)))))))
                have D14 : Hid (Blk W7 p14 t.cs 42) := hid (by rw [hW7]; exact (by repeat (first | with_reducible exact HB14.out | with_reducible refine Blk.alloc ?_ _ | with_reducible refine Blk.drew ?_ | with_reducible refine Blk.on ?_ _ | ((with_reducible refine Blk.chg ?_ (chg_chg _ _ _) ?_); rotate_left; (first | assumption | (focus (simp; done)) | (focus (simp; omega)))) | with_reducible refine Blk.set ?_ _ _ | ((with_reducible refine Blk.set_ne ?_ ?_ _); rotate_left; (first | assumption | (focus (simp; done)) | (focus (simp; omega)))))))
                have D10 : Hid (Blk W7 p10 [.slice a5 (pack LA).length c5, .int .i64 (LA.length : Nat)] 29) := hid (by rw [hW7]; exact (by repeat (first | with_reducible exact HB10.out | with_reducible refine Blk.alloc ?_ _ | with_reducible refine Blk.drew ?_ | with_reducible refine Blk.on ?_ _ | ((with_reducible refine Blk.chg ?_ (chg_chg _ _ _) ?_); rotate_left; (first | assumption | (focus (simp; done)) | (focus (simp; omega)))) | with_reducible refine Blk.set ?_ _ _ | ((with_reducible refine Blk.set_ne ?_ ?_ _); rotate_left; (first | assumption | (focus (simp; done)) | (focus (simp; omega)))))))
                have N16 : Hid (Blk W7 (wr.heap.size + e7.heap.size) [.slice a7 (pack L').length c7, .int .i64 (L'.length : Nat)] 29) := hid (by rw [hW7]; exact (by repeat (first | exact Blk.new' (by simp; done) | exact Blk.new' rfl | with_reducible assumption | with_reducible refine Blk.alloc ?_ _ | with_reducible refine Blk.drew ?_ | with_reducible refine Blk.on ?_ _ | ((with_reducible refine Blk.chg ?_ (chg_chg _ _ _) ?_); rotate_left; (first | assumption | (focus (simp; done)) | (focus (simp; omega)))))))
                have N17 : Hid (Blk W7 (wr.heap.size + e7.heap.size + 1) t'.cs 42) := hid (by rw [hW7]; exact (by repeat (first | exact Blk.new' (by simp; done) | exact Blk.new' rfl | with_reducible assumption | with_reducible refine Blk.alloc ?_ _ | with_reducible refine Blk.drew ?_ | with_reducible refine Blk.on ?_ _ | ((with_reducible refine Blk.chg ?_ (chg_chg _ _ _) ?_); rotate_left; (first | assumption | (focus (simp; done)) | (focus (simp; omega)))))))
                have AB : Hid (OwnB wr.heap.size W7 (.slice a7 (pack L').length c7) (pack L')) := hid (by rw [hW7]; (repeat (first | with_reducible refine Own.alloc ?_ _ | with_reducible refine Own.drew ?_)); exact Own.mono (Own.over_swap HO7.out (by first | exact Nat.le_refl _ | rfl | omega | (simp; done) | (simp; omega)) (by first | exact Nat.le_refl _ | rfl | omega | (simp; done) | (simp; omega))) (by first | exact Nat.le_refl _ | rfl | omega | (simp; done) | (simp; omega)))
                have hwW : wr.heap.size ≤ W7.heap.size := by rw [hW7]; simp; try omega
                clear hW7
                obtain ⟨p16, hp16⟩ : ∃ p, p = (wr.heap.size + e7.heap.size) := ⟨_, rfl⟩
                obtain ⟨p17, hp17⟩ : ∃ p, p = (wr.heap.size + e7.heap.size + 1) := ⟨_, rfl⟩
                first
                  | (rw [← hp17] at N17 ⊢; rw [← hp16] at N16 ⊢)
                  | (rw [← hp16] at N16 ⊢; rw [← hp17] at N17 ⊢)
                have n167 : ¬ p16 = p7 := by omega
                have n168 : ¬ p16 = p8 := by omega
                have n1614 : ¬ p16 = p14 := by omega
                have n177 : ¬ p17 = p7 := by omega
                have n178 : ¬ p17 = p8 := by omega
                have n1714 : ¬ p17 = p14 := by omega
                clear hp16 hp17
                clear r70 r71 g70 g71 l7 r80 r81 r82 r83 r84 r85 r86 g80 g81 g82 g83 g84 g85 g86 l8 r140 r141 r142 r143 r144 r145 r146 g140 g141 g142 g143 g144 g145 g146 l14 r100 r101 l10
                clear kr0 kr1 hbr
                obtain ⟨b6', o6', hb6', hbr, kr0, kr1⟩ := SlM.at_ (HS2.out W7 C7.out) hlt
                cases hb6'
                rw [HX6.out] at kr0 kr1
                have r70 := D7.out.cell 0 rfl
                have r71 := D7.out.cell 1 rfl
                have g70 := D7.out.free 0
                have g71 := D7.out.free 1
                have l7 := D7.out.lt
                have r80 := D8.out.cell 0 rfl
                have r81 := D8.out.cell 1 rfl
                have r82 := D8.out.cell 2 rfl
                have r83 := D8.out.cell 3 rfl
                have r84 := D8.out.cell 4 rfl
                have r85 := D8.out.cell 5 rfl
                have r86 := D8.out.cell 6 rfl
                have g80 := D8.out.free 0
                have g81 := D8.out.free 1
                have g82 := D8.out.free 2
                have g83 := D8.out.free 3
                have g84 := D8.out.free 4
                have g85 := D8.out.free 5
                have g86 := D8.out.free 6
                have l8 := D8.out.lt
                have r140 := D14.out.cell 0 rfl
                have r141 := D14.out.cell 1 rfl
                have r142 := D14.out.cell 2 rfl
                have r143 := D14.out.cell 3 rfl
                have r144 := D14.out.cell 4 rfl
                have r145 := D14.out.cell 5 rfl
                have r146 := D14.out.cell 6 rfl
                have g140 := D14.out.free 0
                have g141 := D14.out.free 1
                have g142 := D14.out.free 2
                have g143 := D14.out.free 3
                have g144 := D14.out.free 4
                have g145 := D14.out.free 5
                have g146 := D14.out.free 6
                have l14 := D14.out.lt
                have r100 := D10.out.cell 0 rfl
                have r101 := D10.out.cell 1 rfl
                have l10 := D10.out.lt
                have r160 := N16.out.cell 0 rfl
                have r161 := N16.out.cell 1 rfl
                have l16 := N16.out.lt
                have r170 := N17.out.cell 0 rfl
                have r171 := N17.out.cell 1 rfl
                have r172 := N17.out.cell 2 rfl
                have r173 := N17.out.cell 3 rfl
                have r174 := N17.out.cell 4 rfl
                have r175 := N17.out.cell 5 rfl
                have r176 := N17.out.cell 6 rfl
                have l17 := N17.out.lt
                have m61 : ∀ x, b6 < W7.heap.size + x := fun x => by omega
                have m62 : ∀ x y, b6 < W7.heap.size + x + y := fun x y => by omega
                have m63 : ∀ x y z, b6 < W7.heap.size + x + y + z := fun x y z => by omega
                have m71 : ∀ x, p17 < W7.heap.size + x := fun x => by omega
                have m72 : ∀ x y, p17 < W7.heap.size + x + y := fun x y => by omega
                have m73 : ∀ x y z, p17 < W7.heap.size + x + y + z := fun x y z => by omega
                go_wp2_with (go_at_call 34; (with_reducible refine (HG'.out _ (TabW.ch HT0.out C7.out h0F) (HA.out _ C7.out)).mono ?_); rintro _ _ ⟨⟨e8, rfl⟩, rfl⟩)
                refine wp_region_over (by kernel_rfl) (by kernel_rfl) ?_
                repeat (go_big_quiet_step ((fail)))
                refine wpQuiet_nil ?_
                intro _ hw'
                obtain ⟨nq, rfl⟩ := hw'
                refine gen_w ?_
                intro W9 hW9
                have C9 : Hid (Chg F W0 W9) := hid (by rw [hW9]; exact (by repeat (first | with_reducible exact C7.out | (focus (refine ChS.chg ?_; (repeat (first | with_reducible exact ChS.refl _ _ | with_reducible refine ChS.drewl ?_ | with_reducible refine ChS.drewr ?_ | with_reducible refine ChS.over ?_ _ | with_reducible refine chS_chgs ?_ _ | ((with_reducible refine chS_set ?_ _ ?_ _); rotate_left; (first | assumption | (focus (simp; done)) | (focus (simp; assumption)))) | with_reducible refine ChS.alloc ?_ _ | ((with_reducible refine ChS.lit ?_ ?_ _ _); rotate_left; (first | assumption | (focus (simp; done)) | (focus (simp; assumption)))) | with_reducible refine ChS.alloc ?_ _)); done)) | with_reducible refine Chg.alloc ?_ _ | with_reducible refine Chg.drew ?_ | with_reducible refine Chg.on ?_ _ | ((with_reducible refine Chg.setCell ?_ ?_ _); rotate_left; (first | (focus (left; assumption)) | (focus (left; simp; done)) | (focus (right; simp; done)) | (focus (right; simp; omega)) | (focus (left; simp; omega)))) | ((with_reducible refine Chg.in_ ?_ _ ?_); rotate_left; (first | assumption | (focus (intro i hi; left; simp at hi; subst hi; assumption)) | exact fun i hi => Or.inl hi | (focus (intro i hi; left; simp [hi]; done)) | (focus (intro i hi; left; simp at hi ⊢; simp [hi]; done)) | (focus (intro i hi; simp at hi ⊢; simp [hi]; done)) | (focus (intro i hi; simp at hi ⊢; omega)))))))
                have E7 : Hid (Blk W9 p7 [.slice a3 (pack L).length c3, .int .i64 (L.length : Nat)] 29) := hid (by rw [hW9]; exact (by repeat (first | with_reducible exact D7.out | with_reducible refine Blk.alloc ?_ _ | with_reducible refine Blk.drew ?_ | with_reducible refine Blk.on ?_ _ | ((with_reducible refine Blk.chg ?_ (chg_chg _ _ _) ?_); rotate_left; (first | assumption | (focus (simp; done)) | (focus (simp; omega)))) | with_reducible refine Blk.set ?_ _ _ | ((with_reducible refine Blk.set_ne ?_ ?_ _); rotate_left; (first | assumption | (focus (simp; done)) | (focus (simp; omega)))))))
                have E8 : Hid (Blk W9 p8 t.cs 42) := hid (by rw [hW9]; exact (by repeat (first | with_reducible exact D8.out | with_reducible refine Blk.alloc ?_ _ | with_reducible refine Blk.drew ?_ | with_reducible refine Blk.on ?_ _ | ((with_reducible refine Blk.chg ?_ (chg_chg _ _ _) ?_); rotate_left; (first | assumption | (focus (simp; done)) | (focus (simp; omega)))) | with_reducible refine Blk.set ?_ _ _ | ((with_reducible refine Blk.set_ne ?_ ?_ _); rotate_left; (first | assumption | (focus (simp; done)) | (focus (simp; omega)))))))
                have E14 : Hid (Blk W9 p14 t.cs 42) := hid (by rw [hW9]; exact (by repeat (first | with_reducible exact D14.out | with_reducible refine Blk.alloc ?_ _ | with_reducible refine Blk.drew ?_ | with_reducible refine Blk.on ?_ _ | ((with_reducible refine Blk.chg ?_ (chg_chg _ _ _) ?_); rotate_left; (first | assumption | (focus (simp; done)) | (focus (simp; omega)))) | with_reducible refine Blk.set ?_ _ _ | ((with_reducible refine Blk.set_ne ?_ ?_ _); rotate_left; (first | assumption | (focus (simp; done)) | (focus (simp; omega)))))))
                have E10 : Hid (Blk W9 p10 [.slice a5 (pack LA).length c5, .int .i64 (LA.length : Nat)] 29) := hid (by rw [hW9]; exact (by repeat (first | with_reducible exact D10.out | with_reducible refine Blk.alloc ?_ _ | with_reducible refine Blk.drew ?_ | with_reducible refine Blk.on ?_ _ | ((with_reducible refine Blk.chg ?_ (chg_chg _ _ _) ?_); rotate_left; (first | assumption | (focus (simp; done)) | (focus (simp; omega)))) | with_reducible refine Blk.set ?_ _ _ | ((with_reducible refine Blk.set_ne ?_ ?_ _); rotate_left; (first | assumption | (focus (simp; done)) | (focus (simp; omega)))))))
                have E16 : Hid (Blk W9 p16 [.slice a7 (pack L').length c7, .int .i64 (L'.length : Nat)] 29) := hid (by rw [hW9]; exact (by repeat (first | with_reducible exact N16.out | with_reducible refine Blk.alloc ?_ _ | with_reducible refine Blk.drew ?_ | with_reducible refine Blk.on ?_ _ | ((with_reducible refine Blk.chg ?_ (chg_chg _ _ _) ?_); rotate_left; (first | assumption | (focus (simp; done)) | (focus (simp; omega)))) | with_reducible refine Blk.set ?_ _ _ | ((with_reducible refine Blk.set_ne ?_ ?_ _); rotate_left; (first | assumption | (focus (simp; done)) | (focus (simp; omega)))))))
                have E17 : Hid (Blk W9 p17 t'.cs 42) := hid (by rw [hW9]; exact (by repeat (first | with_reducible exact N17.out | with_reducible refine Blk.alloc ?_ _ | with_reducible refine Blk.drew ?_ | with_reducible refine Blk.on ?_ _ | ((with_reducible refine Blk.chg ?_ (chg_chg _ _ _) ?_); rotate_left; (first | assumption | (focus (simp; done)) | (focus (simp; omega)))) | with_reducible refine Blk.set ?_ _ _ | ((with_reducible refine Blk.set_ne ?_ ?_ _); rotate_left; (first | assumption | (focus (simp; done)) | (focus (simp; omega)))))))
                have E21 : Hid (Blk W9 (W7.heap.size + e8.heap.size + 1) t'.cs 42) := hid (by rw [hW9]; (repeat (first | with_reducible refine Blk.on ?_ _ | with_reducible refine Blk.drew ?_)); exact Blk.new' (by simp))
                have AB9 : Hid (OwnB wr.heap.size W9 (.slice a7 (pack L').length c7) (pack L')) := hid (by rw [hW9]; exact (by repeat (first | with_reducible exact AB.out | ((with_reducible refine Own.set_ne ?_ ?_ _); rotate_left; (first | assumption | (focus (simp; done)) | (focus (simp [Value.ownBlock]; done)) | (focus (simp [Value.ownBlock]; omega)))) | ((with_reducible refine Own.in_some ?_ _ ?_); rotate_left; (first | assumption | (focus (simp; done)) | (focus (simp; omega)))) | ((with_reducible refine Own.in_one ?_ _ ?_); rotate_left; (first | assumption | (focus (simp [Value.ownBlock]; done)) | (focus (simp [Value.ownBlock]; omega)))) | ((with_reducible refine Own.chg ?_ (chg_chg _ _ _) ?_); rotate_left; (first | assumption | (focus (simp; done)) | (focus (simp; omega)))) | with_reducible refine Own.over ?_ _ | with_reducible refine Own.alloc ?_ _ | with_reducible refine Own.drew ?_ | exact AB.out)))
                have hwW9 : W7.heap.size + e8.heap.size + 1 < W9.heap.size := E21.out.lt
                clear hW9
                obtain ⟨p21, hp21⟩ : ∃ p, p = W7.heap.size + e8.heap.size + 1 := ⟨_, rfl⟩
                rw [← hp21] at E21 ⊢
                have n217 : ¬ p21 = p7 := by omega
                have n218 : ¬ p21 = p8 := by omega
                have n2114 : ¬ p21 = p14 := by omega
                clear hp21
                clear r70 r71 g70 g71 l7 r80 r81 r82 r83 r84 r85 r86 g80 g81 g82 g83 g84 g85 g86 l8 r140 r141 r142 r143 r144 r145 r146 g140 g141 g142 g143 g144 g145 g146 l14 r100 r101 l10
                clear kr0 kr1 hbr m61 m62 m63 m71 m72 m73 r160 r161 l16 r170 r171 r172 r173 r174 r175 r176 l17
                have r70 := E7.out.cell 0 rfl
                have r71 := E7.out.cell 1 rfl
                have g70 := E7.out.free 0
                have g71 := E7.out.free 1
                have l7 := E7.out.lt
                have r80 := E8.out.cell 0 rfl
                have r81 := E8.out.cell 1 rfl
                have r82 := E8.out.cell 2 rfl
                have r83 := E8.out.cell 3 rfl
                have r84 := E8.out.cell 4 rfl
                have r85 := E8.out.cell 5 rfl
                have r86 := E8.out.cell 6 rfl
                have g80 := E8.out.free 0
                have g81 := E8.out.free 1
                have g82 := E8.out.free 2
                have g83 := E8.out.free 3
                have g84 := E8.out.free 4
                have g85 := E8.out.free 5
                have g86 := E8.out.free 6
                have l8 := E8.out.lt
                have r140 := E14.out.cell 0 rfl
                have r141 := E14.out.cell 1 rfl
                have r142 := E14.out.cell 2 rfl
                have r143 := E14.out.cell 3 rfl
                have r144 := E14.out.cell 4 rfl
                have r145 := E14.out.cell 5 rfl
                have r146 := E14.out.cell 6 rfl
                have g140 := E14.out.free 0
                have g141 := E14.out.free 1
                have g142 := E14.out.free 2
                have g143 := E14.out.free 3
                have g144 := E14.out.free 4
                have g145 := E14.out.free 5
                have g146 := E14.out.free 6
                have l14 := E14.out.lt
                have r100 := E10.out.cell 0 rfl
                have r101 := E10.out.cell 1 rfl
                have l10 := E10.out.lt
                have r160 := E16.out.cell 0 rfl
                have r161 := E16.out.cell 1 rfl
                have l16 := E16.out.lt
                have r170 := E17.out.cell 0 rfl
                have r171 := E17.out.cell 1 rfl
                have r172 := E17.out.cell 2 rfl
                have r173 := E17.out.cell 3 rfl
                have r174 := E17.out.cell 4 rfl
                have r175 := E17.out.cell 5 rfl
                have r176 := E17.out.cell 6 rfl
                have l17 := E17.out.lt
                have r210 := E21.out.cell 0 rfl
                have r211 := E21.out.cell 1 rfl
                have r212 := E21.out.cell 2 rfl
                have r213 := E21.out.cell 3 rfl
                have r214 := E21.out.cell 4 rfl
                have r215 := E21.out.cell 5 rfl
                have r216 := E21.out.cell 6 rfl
                have l21 := E21.out.lt
                go_wp2_with fail
                go_roundw
                case rel =>
                  refine ⟨k + 1, by omega, by go_num, by rw [HL'.out], ?_⟩
                  with_reducible refine go_next C9.out HL'.out HT'.out E7.out E8.out E14.out m7 m8 m14 n78 n714 n814 AB9.out hb4'.out
                case measure => simp [intOf]; omega
              exact M2.tree_no
            exact M2.tree_no
          exact M2.tree_no
        refine M2.tree_e (k := 12) rfl ?_ ?_
        · go_wp2_with ((go_at_call 28; (with_reducible refine (HP.out _ (TabW.ch HT0.out (by repeat (first | with_reducible exact C.out | (focus (refine ChS.chg ?_; (repeat (first | with_reducible exact ChS.refl _ _ | with_reducible refine ChS.drewl ?_ | with_reducible refine ChS.drewr ?_ | with_reducible refine ChS.over ?_ _ | with_reducible refine chS_chgs ?_ _ | ((with_reducible refine chS_set ?_ _ ?_ _); rotate_left; (first | assumption | (focus (simp; done)) | (focus (simp; assumption)))) | with_reducible refine ChS.alloc ?_ _ | ((with_reducible refine ChS.lit ?_ ?_ _ _); rotate_left; (first | assumption | (focus (simp; done)) | (focus (simp; assumption)))) | with_reducible refine ChS.alloc ?_ _)); done)) | with_reducible refine Chg.alloc ?_ _ | with_reducible refine Chg.drew ?_ | with_reducible refine Chg.on ?_ _ | ((with_reducible refine Chg.setCell ?_ ?_ _); rotate_left; (first | (focus (left; assumption)) | (focus (left; simp; done)) | (focus (right; simp; done)) | (focus (right; simp; omega)) | (focus (left; simp; omega)))) | ((with_reducible refine Chg.in_ ?_ _ ?_); rotate_left; (first | assumption | (focus (intro i hi; left; simp at hi; subst hi; assumption)) | exact fun i hi => Or.inl hi | (focus (intro i hi; left; simp [hi]; done)) | (focus (intro i hi; left; simp at hi ⊢; simp [hi]; done)) | (focus (intro i hi; simp at hi ⊢; simp [hi]; done)) | (focus (intro i hi; simp at hi ⊢; omega)))))) h0F) (HS7.out _ (by repeat (first | with_reducible exact Chg.refl _ _ | (focus (refine ChS.chg ?_; (repeat (first | with_reducible exact ChS.refl _ _ | with_reducible refine ChS.drewl ?_ | with_reducible refine ChS.drewr ?_ | with_reducible refine ChS.over ?_ _ | with_reducible refine chS_chgs ?_ _ | ((with_reducible refine chS_set ?_ _ ?_ _); rotate_left; (first | assumption | (focus (simp; done)) | (focus (simp; assumption)))) | with_reducible refine ChS.alloc ?_ _ | ((with_reducible refine ChS.lit ?_ ?_ _ _); rotate_left; (first | assumption | (focus (simp; done)) | (focus (simp; assumption)))) | with_reducible refine ChS.alloc ?_ _)); done)) | with_reducible refine Chg.alloc ?_ _ | with_reducible refine Chg.drew ?_ | with_reducible refine Chg.on ?_ _ | ((with_reducible refine Chg.setCell ?_ ?_ _); rotate_left; (first | (focus (left; assumption)) | (focus (left; simp; done)) | (focus (right; simp; done)) | (focus (right; simp; omega)) | (focus (left; simp; omega)))) | ((with_reducible refine Chg.in_ ?_ _ ?_); rotate_left; (first | assumption | (focus (intro i hi; left; simp at hi; subst hi; assumption)) | exact fun i hi => Or.inl hi | (focus (intro i hi; left; simp [hi]; done)) | (focus (intro i hi; left; simp at hi ⊢; simp [hi]; done)) | (focus (intro i hi; simp at hi ⊢; simp [hi]; done)) | (focus (intro i hi; simp at hi ⊢; omega)))))))).mono ?_); rintro _ _ ⟨a7, c7, rfl, ⟨e7, rfl⟩, ho7⟩; have HO7 := hid ho7; clear ho7))
          refine M2.TreeQ.mk (by (try unfold Ov); repeat (first | with_reducible exact ex_over | with_reducible exact over_self _ | with_reducible refine ex_undrew ?_ | with_reducible refine ex_into ?_ _ | with_reducible refine ex_alloc ?_ _ | with_reducible refine ex_drew ?_ | ((with_reducible refine ex_setCell ?_ ?_ _); rotate_left; (first | omega | (focus (simp; done)) | (focus (simp; omega)))) | ((with_reducible refine ex_chg ?_ _ ?_); rotate_left; (first | assumption | (exact Hid.out (by assumption)))) | exact ex_over)) ?_
          refine M2.tree_e (k := 11) rfl ?_ ?_
          · go_wp2_with ((go_at_call 28; (with_reducible refine (HP.out _ (TabW.ch HT0.out (by repeat (first | with_reducible exact C.out | (focus (refine ChS.chg ?_; (repeat (first | with_reducible exact ChS.refl _ _ | with_reducible refine ChS.drewl ?_ | with_reducible refine ChS.drewr ?_ | with_reducible refine ChS.over ?_ _ | with_reducible refine chS_chgs ?_ _ | ((with_reducible refine chS_set ?_ _ ?_ _); rotate_left; (first | assumption | (focus (simp; done)) | (focus (simp; assumption)))) | with_reducible refine ChS.alloc ?_ _ | ((with_reducible refine ChS.lit ?_ ?_ _ _); rotate_left; (first | assumption | (focus (simp; done)) | (focus (simp; assumption)))) | with_reducible refine ChS.alloc ?_ _)); done)) | with_reducible refine Chg.alloc ?_ _ | with_reducible refine Chg.drew ?_ | with_reducible refine Chg.on ?_ _ | ((with_reducible refine Chg.setCell ?_ ?_ _); rotate_left; (first | (focus (left; assumption)) | (focus (left; simp; done)) | (focus (right; simp; done)) | (focus (right; simp; omega)) | (focus (left; simp; omega)))) | ((with_reducible refine Chg.in_ ?_ _ ?_); rotate_left; (first | assumption | (focus (intro i hi; left; simp at hi; subst hi; assumption)) | exact fun i hi => Or.inl hi | (focus (intro i hi; left; simp [hi]; done)) | (focus (intro i hi; left; simp at hi ⊢; simp [hi]; done)) | (focus (intro i hi; simp at hi ⊢; simp [hi]; done)) | (focus (intro i hi; simp at hi ⊢; omega)))))) h0F) (HS7.out _ (by repeat (first | with_reducible exact Chg.refl _ _ | (focus (refine ChS.chg ?_; (repeat (first | with_reducible exact ChS.refl _ _ | with_reducible refine ChS.drewl ?_ | with_reducible refine ChS.drewr ?_ | with_reducible refine ChS.over ?_ _ | with_reducible refine chS_chgs ?_ _ | ((with_reducible refine chS_set ?_ _ ?_ _); rotate_left; (first | assumption | (focus (simp; done)) | (focus (simp; assumption)))) | with_reducible refine ChS.alloc ?_ _ | ((with_reducible refine ChS.lit ?_ ?_ _ _); rotate_left; (first | assumption | (focus (simp; done)) | (focus (simp; assumption)))) | with_reducible refine ChS.alloc ?_ _)); done)) | with_reducible refine Chg.alloc ?_ _ | with_reducible refine Chg.drew ?_ | with_reducible refine Chg.on ?_ _ | ((with_reducible refine Chg.setCell ?_ ?_ _); rotate_left; (first | (focus (left; assumption)) | (focus (left; simp; done)) | (focus (right; simp; done)) | (focus (right; simp; omega)) | (focus (left; simp; omega)))) | ((with_reducible refine Chg.in_ ?_ _ ?_); rotate_left; (first | assumption | (focus (intro i hi; left; simp at hi; subst hi; assumption)) | exact fun i hi => Or.inl hi | (focus (intro i hi; left; simp [hi]; done)) | (focus (intro i hi; left; simp at hi ⊢; simp [hi]; done)) | (focus (intro i hi; simp at hi ⊢; simp [hi]; done)) | (focus (intro i hi; simp at hi ⊢; omega)))))))).mono ?_); rintro _ _ ⟨a7, c7, rfl, ⟨e7, rfl⟩, ho7⟩; have HO7 := hid ho7; clear ho7))
            refine M2.TreeQ.mk (by (try unfold Ov); repeat (first | with_reducible exact ex_over | with_reducible exact over_self _ | with_reducible refine ex_undrew ?_ | with_reducible refine ex_into ?_ _ | with_reducible refine ex_alloc ?_ _ | with_reducible refine ex_drew ?_ | ((with_reducible refine ex_setCell ?_ ?_ _); rotate_left; (first | omega | (focus (simp; done)) | (focus (simp; omega)))) | ((with_reducible refine ex_chg ?_ _ ?_); rotate_left; (first | assumption | (exact Hid.out (by assumption)))) | exact ex_over)) ?_
            refine M2.tree_e (k := 13) rfl ?_ ?_
            · go_wp2_with ((go_at_call 28; (with_reducible refine (HP.out _ (TabW.ch HT0.out (by repeat (first | with_reducible exact C.out | (focus (refine ChS.chg ?_; (repeat (first | with_reducible exact ChS.refl _ _ | with_reducible refine ChS.drewl ?_ | with_reducible refine ChS.drewr ?_ | with_reducible refine ChS.over ?_ _ | with_reducible refine chS_chgs ?_ _ | ((with_reducible refine chS_set ?_ _ ?_ _); rotate_left; (first | assumption | (focus (simp; done)) | (focus (simp; assumption)))) | with_reducible refine ChS.alloc ?_ _ | ((with_reducible refine ChS.lit ?_ ?_ _ _); rotate_left; (first | assumption | (focus (simp; done)) | (focus (simp; assumption)))) | with_reducible refine ChS.alloc ?_ _)); done)) | with_reducible refine Chg.alloc ?_ _ | with_reducible refine Chg.drew ?_ | with_reducible refine Chg.on ?_ _ | ((with_reducible refine Chg.setCell ?_ ?_ _); rotate_left; (first | (focus (left; assumption)) | (focus (left; simp; done)) | (focus (right; simp; done)) | (focus (right; simp; omega)) | (focus (left; simp; omega)))) | ((with_reducible refine Chg.in_ ?_ _ ?_); rotate_left; (first | assumption | (focus (intro i hi; left; simp at hi; subst hi; assumption)) | exact fun i hi => Or.inl hi | (focus (intro i hi; left; simp [hi]; done)) | (focus (intro i hi; left; simp at hi ⊢; simp [hi]; done)) | (focus (intro i hi; simp at hi ⊢; simp [hi]; done)) | (focus (intro i hi; simp at hi ⊢; omega)))))) h0F) (HS7.out _ (by repeat (first | with_reducible exact Chg.refl _ _ | (focus (refine ChS.chg ?_; (repeat (first | with_reducible exact ChS.refl _ _ | with_reducible refine ChS.drewl ?_ | with_reducible refine ChS.drewr ?_ | with_reducible refine ChS.over ?_ _ | with_reducible refine chS_chgs ?_ _ | ((with_reducible refine chS_set ?_ _ ?_ _); rotate_left; (first | assumption | (focus (simp; done)) | (focus (simp; assumption)))) | with_reducible refine ChS.alloc ?_ _ | ((with_reducible refine ChS.lit ?_ ?_ _ _); rotate_left; (first | assumption | (focus (simp; done)) | (focus (simp; assumption)))) | with_reducible refine ChS.alloc ?_ _)); done)) | with_reducible refine Chg.alloc ?_ _ | with_reducible refine Chg.drew ?_ | with_reducible refine Chg.on ?_ _ | ((with_reducible refine Chg.setCell ?_ ?_ _); rotate_left; (first | (focus (left; assumption)) | (focus (left; simp; done)) | (focus (right; simp; done)) | (focus (right; simp; omega)) | (focus (left; simp; omega)))) | ((with_reducible refine Chg.in_ ?_ _ ?_); rotate_left; (first | assumption | (focus (intro i hi; left; simp at hi; subst hi; assumption)) | exact fun i hi => Or.inl hi | (focus (intro i hi; left; simp [hi]; done)) | (focus (intro i hi; left; simp at hi ⊢; simp [hi]; done)) | (focus (intro i hi; simp at hi ⊢; simp [hi]; done)) | (focus (intro i hi; simp at hi ⊢; omega)))))))).mono ?_); rintro _ _ ⟨a7, c7, rfl, ⟨e7, rfl⟩, ho7⟩; have HO7 := hid ho7; clear ho7))
              refine M2.TreeQ.mk (by (try unfold Ov); repeat (first | with_reducible exact ex_over | with_reducible exact over_self _ | with_reducible refine ex_undrew ?_ | with_reducible refine ex_into ?_ _ | with_reducible refine ex_alloc ?_ _ | with_reducible refine ex_drew ?_ | ((with_reducible refine ex_setCell ?_ ?_ _); rotate_left; (first | omega | (focus (simp; done)) | (focus (simp; omega)))) | ((with_reducible refine ex_chg ?_ _ ?_); rotate_left; (first | assumption | (exact Hid.out (by assumption)))) | exact ex_over)) ?_
              refine M2.tree_e (k := 14) rfl ?_ ?_
              · go_wp2_with ((go_at_call 28; (with_reducible refine (HP.out _ (TabW.ch HT0.out (by repeat (first | with_reducible exact C.out | (focus (refine ChS.chg ?_; (repeat (first | with_reducible exact ChS.refl _ _ | with_reducible refine ChS.drewl ?_ | with_reducible refine ChS.drewr ?_ | with_reducible refine ChS.over ?_ _ | with_reducible refine chS_chgs ?_ _ | ((with_reducible refine chS_set ?_ _ ?_ _); rotate_left; (first | assumption | (focus (simp; done)) | (focus (simp; assumption)))) | with_reducible refine ChS.alloc ?_ _ | ((with_reducible refine ChS.lit ?_ ?_ _ _); rotate_left; (first | assumption | (focus (simp; done)) | (focus (simp; assumption)))) | with_reducible refine ChS.alloc ?_ _)); done)) | with_reducible refine Chg.alloc ?_ _ | with_reducible refine Chg.drew ?_ | with_reducible refine Chg.on ?_ _ | ((with_reducible refine Chg.setCell ?_ ?_ _); rotate_left; (first | (focus (left; assumption)) | (focus (left; simp; done)) | (focus (right; simp; done)) | (focus (right; simp; omega)) | (focus (left; simp; omega)))) | ((with_reducible refine Chg.in_ ?_ _ ?_); rotate_left; (first | assumption | (focus (intro i hi; left; simp at hi; subst hi; assumption)) | exact fun i hi => Or.inl hi | (focus (intro i hi; left; simp [hi]; done)) | (focus (intro i hi; left; simp at hi ⊢; simp [hi]; done)) | (focus (intro i hi; simp at hi ⊢; simp [hi]; done)) | (focus (intro i hi; simp at hi ⊢; omega)))))) h0F) (HS7.out _ (by repeat (first | with_reducible exact Chg.refl _ _ | (focus (refine ChS.chg ?_; (repeat (first | with_reducible exact ChS.refl _ _ | with_reducible refine ChS.drewl ?_ | with_reducible refine ChS.drewr ?_ | with_reducible refine ChS.over ?_ _ | with_reducible refine chS_chgs ?_ _ | ((with_reducible refine chS_set ?_ _ ?_ _); rotate_left; (first | assumption | (focus (simp; done)) | (focus (simp; assumption)))) | with_reducible refine ChS.alloc ?_ _ | ((with_reducible refine ChS.lit ?_ ?_ _ _); rotate_left; (first | assumption | (focus (simp; done)) | (focus (simp; assumption)))) | with_reducible refine ChS.alloc ?_ _)); done)) | with_reducible refine Chg.alloc ?_ _ | with_reducible refine Chg.drew ?_ | with_reducible refine Chg.on ?_ _ | ((with_reducible refine Chg.setCell ?_ ?_ _); rotate_left; (first | (focus (left; assumption)) | (focus (left; simp; done)) | (focus (right; simp; done)) | (focus (right; simp; omega)) | (focus (left; simp; omega)))) | ((with_reducible refine Chg.in_ ?_ _ ?_); rotate_left; (first | assumption | (focus (intro i hi; left; simp at hi; subst hi; assumption)) | exact fun i hi => Or.inl hi | (focus (intro i hi; left; simp [hi]; done)) | (focus (intro i hi; left; simp at hi ⊢; simp [hi]; done)) | (focus (intro i hi; simp at hi ⊢; simp [hi]; done)) | (focus (intro i hi; simp at hi ⊢; omega)))))))).mono ?_); rintro _ _ ⟨a7, c7, rfl, ⟨e7, rfl⟩, ho7⟩; have HO7 := hid ho7; clear ho7))
                refine M2.TreeQ.mk (by (try unfold Ov); repeat (first | with_reducible exact ex_over | with_reducible exact over_self _ | with_reducible refine ex_undrew ?_ | with_reducible refine ex_into ?_ _ | with_reducible refine ex_alloc ?_ _ | with_reducible refine ex_drew ?_ | ((with_reducible refine ex_setCell ?_ ?_ _); rotate_left; (first | omega | (focus (simp; done)) | (focus (simp; omega)))) | ((with_reducible refine ex_chg ?_ _ ?_); rotate_left; (first | assumption | (exact Hid.out (by assumption)))) | exact ex_over)) ?_
                refine M2.tree_q (k := 15) rfl rfl ?_
                go_big_quiet_step (fail)
                with_reducible refine wpQuiet_nil ?_
                refine M2.tree_done ?_
                refine gen_w ?_
                intro W7 hW7
                have C7 : Hid (Chg F W0 W7) := hid (by rw [hW7]; exact (by repeat (first | with_reducible exact C.out | (focus (refine ChS.chg ?_; (repeat (first | with_reducible exact ChS.refl _ _ | with_reducible refine ChS.drewl ?_ | with_reducible refine ChS.drewr ?_ | with_reducible refine ChS.over ?_ _ | with_reducible refine chS_chgs ?_ _ | ((with_reducible refine chS_set ?_ _ ?_ _); rotate_left; (first | assumption | (focus (simp; done)) | (focus (simp; assumption)))) | with_reducible refine ChS.alloc ?_ _ | ((with_reducible refine ChS.lit ?_ ?_ _ _); rotate_left; (first | assumption | (focus (simp; done)) | (focus (simp; assumption)))) | with_reducible refine ChS.alloc ?_ _)); done)) | with_reducible refine Chg.alloc ?_ _ | with_reducible refine Chg.drew ?_ | with_reducible refine Chg.on ?_ _ | ((with_reducible refine Chg.setCell ?_ ?_ _); rotate_left; (first | (focus (left; assumption)) | (focus (left; simp; done)) | (focus (right; simp; done)) | (focus (right; simp; omega)) | (focus (left; simp; omega)))) | ((with_reducible refine Chg.in_ ?_ _ ?_); rotate_left; (first | assumption | (focus (intro i hi; left; simp at hi; subst hi; assumption)) | exact fun i hi => Or.inl hi | (focus (intro i hi; left; simp [hi]; done)) | (focus (intro i hi; left; simp at hi ⊢; simp [hi]; done)) | (focus (intro i hi; simp at hi ⊢; simp [hi]; done)) | (focus (intro i hi; simp at hi ⊢; omega)))))))
                have D7 : Hid (Blk W7 p7 [.slice a3 (pack L).length c3, .int .i64 (L.length : Nat)] 29) := hid (by rw [hW7]; exact (by repeat (first | with_reducible exact HB7.out | with_reducible refine Blk.alloc ?_ _ | with_reducible refine Blk.drew ?_ | with_reducible refine Blk.on ?_ _ | ((with_reducible refine Blk.chg ?_ (chg_chg _ _ _) ?_); rotate_left; (first | assumption | (focus (simp; done)) | (focus (simp; omega)))) | with_reducible refine Blk.set ?_ _ _ | ((with_reducible refine Blk.set_ne ?_ ?_ _); rotate_left; (first | assumption | (focus (simp; done)) | (focus (simp; omega)))))))
                have D8 : Hid (Blk W7 p8 t.cs 42) := hid (by rw [hW7]; exact (by repeat (first | with_reducible exact HB8.out | with_reducible refine Blk.alloc ?_ _ | with_reducible refine Blk.drew ?_ | with_reducible refine Blk.on ?_ _ | ((with_reducible refine Blk.chg ?_ (chg_chg _ _ _) ?_); rotate_left; (first | assumption | (focus (simp; done)) | (focus (simp; omega)))) | with_reducible refine Blk.set ?_ _ _ | ((with_reducible refine Blk.set_ne ?_ ?_ _); rotate_left; (first | assumption | (focus (simp; done)) | (focus (simp; omega)))))))
                have D14 : Hid (Blk W7 p14 t.cs 42) := hid (by rw [hW7]; exact (by repeat (first | with_reducible exact HB14.out | with_reducible refine Blk.alloc ?_ _ | with_reducible refine Blk.drew ?_ | with_reducible refine Blk.on ?_ _ | ((with_reducible refine Blk.chg ?_ (chg_chg _ _ _) ?_); rotate_left; (first | assumption | (focus (simp; done)) | (focus (simp; omega)))) | with_reducible refine Blk.set ?_ _ _ | ((with_reducible refine Blk.set_ne ?_ ?_ _); rotate_left; (first | assumption | (focus (simp; done)) | (focus (simp; omega)))))))
                have D10 : Hid (Blk W7 p10 [.slice a5 (pack LA).length c5, .int .i64 (LA.length : Nat)] 29) := hid (by rw [hW7]; exact (by repeat (first | with_reducible exact HB10.out | with_reducible refine Blk.alloc ?_ _ | with_reducible refine Blk.drew ?_ | with_reducible refine Blk.on ?_ _ | ((with_reducible refine Blk.chg ?_ (chg_chg _ _ _) ?_); rotate_left; (first | assumption | (focus (simp; done)) | (focus (simp; omega)))) | with_reducible refine Blk.set ?_ _ _ | ((with_reducible refine Blk.set_ne ?_ ?_ _); rotate_left; (first | assumption | (focus (simp; done)) | (focus (simp; omega)))))))
                have N16 : Hid (Blk W7 (wr.heap.size + e7.heap.size + 1) [.slice a7 (pack L').length c7, .int .i64 (L'.length : Nat)] 29) := hid (by rw [hW7]; exact (by repeat (first | exact Blk.new' (by simp; done) | exact Blk.new' rfl | with_reducible assumption | with_reducible refine Blk.alloc ?_ _ | with_reducible refine Blk.drew ?_ | with_reducible refine Blk.on ?_ _ | ((with_reducible refine Blk.chg ?_ (chg_chg _ _ _) ?_); rotate_left; (first | assumption | (focus (simp; done)) | (focus (simp; omega)))))))
                have N17 : Hid (Blk W7 (wr.heap.size + e7.heap.size) t'.cs 42) := hid (by rw [hW7]; exact (by repeat (first | exact Blk.new' (by simp; done) | exact Blk.new' rfl | with_reducible assumption | with_reducible refine Blk.alloc ?_ _ | with_reducible refine Blk.drew ?_ | with_reducible refine Blk.on ?_ _ | ((with_reducible refine Blk.chg ?_ (chg_chg _ _ _) ?_); rotate_left; (first | assumption | (focus (simp; done)) | (focus (simp; omega)))))))
                have AB : Hid (OwnB wr.heap.size W7 (.slice a7 (pack L').length c7) (pack L')) := hid (by rw [hW7]; (repeat (first | with_reducible refine Own.alloc ?_ _ | with_reducible refine Own.drew ?_)); exact Own.mono (Own.over_swap HO7.out (by first | exact Nat.le_refl _ | rfl | omega | (simp; done) | (simp; omega)) (by first | exact Nat.le_refl _ | rfl | omega | (simp; done) | (simp; omega))) (by first | exact Nat.le_refl _ | rfl | omega | (simp; done) | (simp; omega)))
                have hwW : wr.heap.size ≤ W7.heap.size := by rw [hW7]; simp; try omega
                clear hW7
                obtain ⟨p16, hp16⟩ : ∃ p, p = (wr.heap.size + e7.heap.size + 1) := ⟨_, rfl⟩
                obtain ⟨p17, hp17⟩ : ∃ p, p = (wr.heap.size + e7.heap.size) := ⟨_, rfl⟩
                first
                  | (rw [← hp17] at N17 ⊢; rw [← hp16] at N16 ⊢)
                  | (rw [← hp16] at N16 ⊢; rw [← hp17] at N17 ⊢)
                have n167 : ¬ p16 = p7 := by omega
                have n168 : ¬ p16 = p8 := by omega
                have n1614 : ¬ p16 = p14 := by omega
                have n177 : ¬ p17 = p7 := by omega
                have n178 : ¬ p17 = p8 := by omega
                have n1714 : ¬ p17 = p14 := by omega
                clear hp16 hp17
                clear r70 r71 g70 g71 l7 r80 r81 r82 r83 r84 r85 r86 g80 g81 g82 g83 g84 g85 g86 l8 r140 r141 r142 r143 r144 r145 r146 g140 g141 g142 g143 g144 g145 g146 l14 r100 r101 l10
                clear kr0 kr1 hbr
                obtain ⟨b6', o6', hb6', hbr, kr0, kr1⟩ := SlM.at_ (HS2.out W7 C7.out) hlt
                cases hb6'
                rw [HX6.out] at kr0 kr1
                have r70 := D7.out.cell 0 rfl
                have r71 := D7.out.cell 1 rfl
                have g70 := D7.out.free 0
                have g71 := D7.out.free 1
                have l7 := D7.out.lt
                have r80 := D8.out.cell 0 rfl
                have r81 := D8.out.cell 1 rfl
                have r82 := D8.out.cell 2 rfl
                have r83 := D8.out.cell 3 rfl
                have r84 := D8.out.cell 4 rfl
                have r85 := D8.out.cell 5 rfl
                have r86 := D8.out.cell 6 rfl
                have g80 := D8.out.free 0
                have g81 := D8.out.free 1
                have g82 := D8.out.free 2
                have g83 := D8.out.free 3
                have g84 := D8.out.free 4
                have g85 := D8.out.free 5
                have g86 := D8.out.free 6
                have l8 := D8.out.lt
                have r140 := D14.out.cell 0 rfl
                have r141 := D14.out.cell 1 rfl
                have r142 := D14.out.cell 2 rfl
                have r143 := D14.out.cell 3 rfl
                have r144 := D14.out.cell 4 rfl
                have r145 := D14.out.cell 5 rfl
                have r146 := D14.out.cell 6 rfl
                have g140 := D14.out.free 0
                have g141 := D14.out.free 1
                have g142 := D14.out.free 2
                have g143 := D14.out.free 3
                have g144 := D14.out.free 4
                have g145 := D14.out.free 5
                have g146 := D14.out.free 6
                have l14 := D14.out.lt
                have r100 := D10.out.cell 0 rfl
                have r101 := D10.out.cell 1 rfl
                have l10 := D10.out.lt
                have r160 := N16.out.cell 0 rfl
                have r161 := N16.out.cell 1 rfl
                have l16 := N16.out.lt
                have r170 := N17.out.cell 0 rfl
                have r171 := N17.out.cell 1 rfl
                have r172 := N17.out.cell 2 rfl
                have r173 := N17.out.cell 3 rfl
                have r174 := N17.out.cell 4 rfl
                have r175 := N17.out.cell 5 rfl
                have r176 := N17.out.cell 6 rfl
                have l17 := N17.out.lt
                have m61 : ∀ x, b6 < W7.heap.size + x := fun x => by omega
                have m62 : ∀ x y, b6 < W7.heap.size + x + y := fun x y => by omega
                have m63 : ∀ x y z, b6 < W7.heap.size + x + y + z := fun x y z => by omega
                have m71 : ∀ x, p17 < W7.heap.size + x := fun x => by omega
                have m72 : ∀ x y, p17 < W7.heap.size + x + y := fun x y => by omega
                have m73 : ∀ x y z, p17 < W7.heap.size + x + y + z := fun x y z => by omega
                go_wp2_with (go_at_call 34; (with_reducible refine (HG'.out _ (TabW.ch HT0.out C7.out h0F) (HA.out _ C7.out)).mono ?_); rintro _ _ ⟨⟨e8, rfl⟩, rfl⟩)
                refine wp_region_over (by kernel_rfl) (by kernel_rfl) ?_
                repeat (go_big_quiet_step ((fail)))
                refine wpQuiet_nil ?_
                intro _ hw'
                obtain ⟨nq, rfl⟩ := hw'
                refine gen_w ?_
                intro W9 hW9
                have C9 : Hid (Chg F W0 W9) := hid (by rw [hW9]; exact (by repeat (first | with_reducible exact C7.out | (focus (refine ChS.chg ?_; (repeat (first | with_reducible exact ChS.refl _ _ | with_reducible refine ChS.drewl ?_ | with_reducible refine ChS.drewr ?_ | with_reducible refine ChS.over ?_ _ | with_reducible refine chS_chgs ?_ _ | ((with_reducible refine chS_set ?_ _ ?_ _); rotate_left; (first | assumption | (focus (simp; done)) | (focus (simp; assumption)))) | with_reducible refine ChS.alloc ?_ _ | ((with_reducible refine ChS.lit ?_ ?_ _ _); rotate_left; (first | assumption | (focus (simp; done)) | (focus (simp; assumption)))) | with_reducible refine ChS.alloc ?_ _)); done)) | with_reducible refine Chg.alloc ?_ _ | with_reducible refine Chg.drew ?_ | with_reducible refine Chg.on ?_ _ | ((with_reducible refine Chg.setCell ?_ ?_ _); rotate_left; (first | (focus (left; assumption)) | (focus (left; simp; done)) | (focus (right; simp; done)) | (focus (right; simp; omega)) | (focus (left; simp; omega)))) | ((with_reducible refine Chg.in_ ?_ _ ?_); rotate_left; (first | assumption | (focus (intro i hi; left; simp at hi; subst hi; assumption)) | exact fun i hi => Or.inl hi | (focus (intro i hi; left; simp [hi]; done)) | (focus (intro i hi; left; simp at hi ⊢; simp [hi]; done)) | (focus (intro i hi; simp at hi ⊢; simp [hi]; done)) | (focus (intro i hi; simp at hi ⊢; omega)))))))
                have E7 : Hid (Blk W9 p7 [.slice a3 (pack L).length c3, .int .i64 (L.length : Nat)] 29) := hid (by rw [hW9]; exact (by repeat (first | with_reducible exact D7.out | with_reducible refine Blk.alloc ?_ _ | with_reducible refine Blk.drew ?_ | with_reducible refine Blk.on ?_ _ | ((with_reducible refine Blk.chg ?_ (chg_chg _ _ _) ?_); rotate_left; (first | assumption | (focus (simp; done)) | (focus (simp; omega)))) | with_reducible refine Blk.set ?_ _ _ | ((with_reducible refine Blk.set_ne ?_ ?_ _); rotate_left; (first | assumption | (focus (simp; done)) | (focus (simp; omega)))))))
                have E8 : Hid (Blk W9 p8 t.cs 42) := hid (by rw [hW9]; exact (by repeat (first | with_reducible exact D8.out | with_reducible refine Blk.alloc ?_ _ | with_reducible refine Blk.drew ?_ | with_reducible refine Blk.on ?_ _ | ((with_reducible refine Blk.chg ?_ (chg_chg _ _ _) ?_); rotate_left; (first | assumption | (focus (simp; done)) | (focus (simp; omega)))) | with_reducible refine Blk.set ?_ _ _ | ((with_reducible refine Blk.set_ne ?_ ?_ _); rotate_left; (first | assumption | (focus (simp; done)) | (focus (simp; omega)))))))
                have E14 : Hid (Blk W9 p14 t.cs 42) := hid (by rw [hW9]; exact (by repeat (first | with_reducible exact D14.out | with_reducible refine Blk.alloc ?_ _ | with_reducible refine Blk.drew ?_ | with_reducible refine Blk.on ?_ _ | ((with_reducible refine Blk.chg ?_ (chg_chg _ _ _) ?_); rotate_left; (first | assumption | (focus (simp; done)) | (focus (simp; omega)))) | with_reducible refine Blk.set ?_ _ _ | ((with_reducible refine Blk.set_ne ?_ ?_ _); rotate_left; (first | assumption | (focus (simp; done)) | (focus (simp; omega)))))))
                have E10 : Hid (Blk W9 p10 [.slice a5 (pack LA).length c5, .int .i64 (LA.length : Nat)] 29) := hid (by rw [hW9]; exact (by repeat (first | with_reducible exact D10.out | with_reducible refine Blk.alloc ?_ _ | with_reducible refine Blk.drew ?_ | with_reducible refine Blk.on ?_ _ | ((with_reducible refine Blk.chg ?_ (chg_chg _ _ _) ?_); rotate_left; (first | assumption | (focus (simp; done)) | (focus (simp; omega)))) | with_reducible refine Blk.set ?_ _ _ | ((with_reducible refine Blk.set_ne ?_ ?_ _); rotate_left; (first | assumption | (focus (simp; done)) | (focus (simp; omega)))))))
                have E16 : Hid (Blk W9 p16 [.slice a7 (pack L').length c7, .int .i64 (L'.length : Nat)] 29) := hid (by rw [hW9]; exact (by repeat (first | with_reducible exact N16.out | with_reducible refine Blk.alloc ?_ _ | with_reducible refine Blk.drew ?_ | with_reducible refine Blk.on ?_ _ | ((with_reducible refine Blk.chg ?_ (chg_chg _ _ _) ?_); rotate_left; (first | assumption | (focus (simp; done)) | (focus (simp; omega)))) | with_reducible refine Blk.set ?_ _ _ | ((with_reducible refine Blk.set_ne ?_ ?_ _); rotate_left; (first | assumption | (focus (simp; done)) | (focus (simp; omega)))))))
                have E17 : Hid (Blk W9 p17 t'.cs 42) := hid (by rw [hW9]; exact (by repeat (first | with_reducible exact N17.out | with_reducible refine Blk.alloc ?_ _ | with_reducible refine Blk.drew ?_ | with_reducible refine Blk.on ?_ _ | ((with_reducible refine Blk.chg ?_ (chg_chg _ _ _) ?_); rotate_left; (first | assumption | (focus (simp; done)) | (focus (simp; omega)))) | with_reducible refine Blk.set ?_ _ _ | ((with_reducible refine Blk.set_ne ?_ ?_ _); rotate_left; (first | assumption | (focus (simp; done)) | (focus (simp; omega)))))))
                have E21 : Hid (Blk W9 (W7.heap.size + e8.heap.size + 1) t'.cs 42) := hid (by rw [hW9]; (repeat (first | with_reducible refine Blk.on ?_ _ | with_reducible refine Blk.drew ?_)); exact Blk.new' (by simp))
                have AB9 : Hid (OwnB wr.heap.size W9 (.slice a7 (pack L').length c7) (pack L')) := hid (by rw [hW9]; exact (by repeat (first | with_reducible exact AB.out | ((with_reducible refine Own.set_ne ?_ ?_ _); rotate_left; (first | assumption | (focus (simp; done)) | (focus (simp [Value.ownBlock]; done)) | (focus (simp [Value.ownBlock]; omega)))) | ((with_reducible refine Own.in_some ?_ _ ?_); rotate_left; (first | assumption | (focus (simp; done)) | (focus (simp; omega)))) | ((with_reducible refine Own.in_one ?_ _ ?_); rotate_left; (first | assumption | (focus (simp [Value.ownBlock]; done)) | (focus (simp [Value.ownBlock]; omega)))) | ((with_reducible refine Own.chg ?_ (chg_chg _ _ _) ?_); rotate_left; (first | assumption | (focus (simp; done)) | (focus (simp; omega)))) | with_reducible refine Own.over ?_ _ | with_reducible refine Own.alloc ?_ _ | with_reducible refine Own.drew ?_ | exact AB.out)))
                have hwW9 : W7.heap.size + e8.heap.size + 1 < W9.heap.size := E21.out.lt
                clear hW9
                obtain ⟨p21, hp21⟩ : ∃ p, p = W7.heap.size + e8.heap.size + 1 := ⟨_, rfl⟩
                rw [← hp21] at E21 ⊢
                have n217 : ¬ p21 = p7 := by omega
                have n218 : ¬ p21 = p8 := by omega
                have n2114 : ¬ p21 = p14 := by omega
                clear hp21
                clear r70 r71 g70 g71 l7 r80 r81 r82 r83 r84 r85 r86 g80 g81 g82 g83 g84 g85 g86 l8 r140 r141 r142 r143 r144 r145 r146 g140 g141 g142 g143 g144 g145 g146 l14 r100 r101 l10
                clear kr0 kr1 hbr m61 m62 m63 m71 m72 m73 r160 r161 l16 r170 r171 r172 r173 r174 r175 r176 l17
                have r70 := E7.out.cell 0 rfl
                have r71 := E7.out.cell 1 rfl
                have g70 := E7.out.free 0
                have g71 := E7.out.free 1
                have l7 := E7.out.lt
                have r80 := E8.out.cell 0 rfl
                have r81 := E8.out.cell 1 rfl
                have r82 := E8.out.cell 2 rfl
                have r83 := E8.out.cell 3 rfl
                have r84 := E8.out.cell 4 rfl
                have r85 := E8.out.cell 5 rfl
                have r86 := E8.out.cell 6 rfl
                have g80 := E8.out.free 0
                have g81 := E8.out.free 1
                have g82 := E8.out.free 2
                have g83 := E8.out.free 3
                have g84 := E8.out.free 4
                have g85 := E8.out.free 5
                have g86 := E8.out.free 6
                have l8 := E8.out.lt
                have r140 := E14.out.cell 0 rfl
                have r141 := E14.out.cell 1 rfl
                have r142 := E14.out.cell 2 rfl
                have r143 := E14.out.cell 3 rfl
                have r144 := E14.out.cell 4 rfl
                have r145 := E14.out.cell 5 rfl
                have r146 := E14.out.cell 6 rfl
                have g140 := E14.out.free 0
                have g141 := E14.out.free 1
                have g142 := E14.out.free 2
                have g143 := E14.out.free 3
                have g144 := E14.out.free 4
                have g145 := E14.out.free 5
                have g146 := E14.out.free 6
                have l14 := E14.out.lt
                have r100 := E10.out.cell 0 rfl
                have r101 := E10.out.cell 1 rfl
                have l10 := E10.out.lt
                have r160 := E16.out.cell 0 rfl
                have r161 := E16.out.cell 1 rfl
                have l16 := E16.out.lt
                have r170 := E17.out.cell 0 rfl
                have r171 := E17.out.cell 1 rfl
                have r172 := E17.out.cell 2 rfl
                have r173 := E17.out.cell 3 rfl
                have r174 := E17.out.cell 4 rfl
                have r175 := E17.out.cell 5 rfl
                have r176 := E17.out.cell 6 rfl
                have l17 := E17.out.lt
                have r210 := E21.out.cell 0 rfl
                have r211 := E21.out.cell 1 rfl
                have r212 := E21.out.cell 2 rfl
                have r213 := E21.out.cell 3 rfl
                have r214 := E21.out.cell 4 rfl
                have r215 := E21.out.cell 5 rfl
                have r216 := E21.out.cell 6 rfl
                have l21 := E21.out.lt
                go_wp2_with fail
                go_roundw
                case rel =>
                  refine ⟨k + 1, by omega, by go_num, by rw [HL'.out], ?_⟩
                  with_reducible refine go_next C9.out HL'.out HT'.out E7.out E8.out E14.out m7 m8 m14 n78 n714 n814 AB9.out hb4'.out
                case measure => simp [intOf]; omega
              exact M2.tree_no
            exact M2.tree_no
          exact M2.tree_no
        exact M2.tree_no
      refine M2.tree_e (k := 11) rfl ?_ ?_
      · go_wp2_with ((go_at_call 28; (with_reducible refine (HP.out _ (TabW.ch HT0.out (by repeat (first | with_reducible exact C.out | (focus (refine ChS.chg ?_; (repeat (first | with_reducible exact ChS.refl _ _ | with_reducible refine ChS.drewl ?_ | with_reducible refine ChS.drewr ?_ | with_reducible refine ChS.over ?_ _ | with_reducible refine chS_chgs ?_ _ | ((with_reducible refine chS_set ?_ _ ?_ _); rotate_left; (first | assumption | (focus (simp; done)) | (focus (simp; assumption)))) | with_reducible refine ChS.alloc ?_ _ | ((with_reducible refine ChS.lit ?_ ?_ _ _); rotate_left; (first | assumption | (focus (simp; done)) | (focus (simp; assumption)))) | with_reducible refine ChS.alloc ?_ _)); done)) | with_reducible refine Chg.alloc ?_ _ | with_reducible refine Chg.drew ?_ | with_reducible refine Chg.on ?_ _ | ((with_reducible refine Chg.setCell ?_ ?_ _); rotate_left; (first | (focus (left; assumption)) | (focus (left; simp; done)) | (focus (right; simp; done)) | (focus (right; simp; omega)) | (focus (left; simp; omega)))) | ((with_reducible refine Chg.in_ ?_ _ ?_); rotate_left; (first | assumption | (focus (intro i hi; left; simp at hi; subst hi; assumption)) | exact fun i hi => Or.inl hi | (focus (intro i hi; left; simp [hi]; done)) | (focus (intro i hi; left; simp at hi ⊢; simp [hi]; done)) | (focus (intro i hi; simp at hi ⊢; simp [hi]; done)) | (focus (intro i hi; simp at hi ⊢; omega)))))) h0F) (HS7.out _ (by repeat (first | with_reducible exact Chg.refl _ _ | (focus (refine ChS.chg ?_; (repeat (first | with_reducible exact ChS.refl _ _ | with_reducible refine ChS.drewl ?_ | with_reducible refine ChS.drewr ?_ | with_reducible refine ChS.over ?_ _ | with_reducible refine chS_chgs ?_ _ | ((with_reducible refine chS_set ?_ _ ?_ _); rotate_left; (first | assumption | (focus (simp; done)) | (focus (simp; assumption)))) | with_reducible refine ChS.alloc ?_ _ | ((with_reducible refine ChS.lit ?_ ?_ _ _); rotate_left; (first | assumption | (focus (simp; done)) | (focus (simp; assumption)))) | with_reducible refine ChS.alloc ?_ _)); done)) | with_reducible refine Chg.alloc ?_ _ | with_reducible refine Chg.drew ?_ | with_reducible refine Chg.on ?_ _ | ((with_reducible refine Chg.setCell ?_ ?_ _); rotate_left; (first | (focus (left; assumption)) | (focus (left; simp; done)) | (focus (right; simp; done)) | (focus (right; simp; omega)) | (focus (left; simp; omega)))) | ((with_reducible refine Chg.in_ ?_ _ ?_); rotate_left; (first | assumption | (focus (intro i hi; left; simp at hi; subst hi; assumption)) | exact fun i hi => Or.inl hi | (focus (intro i hi; left; simp [hi]; done)) | (focus (intro i hi; left; simp at hi ⊢; simp [hi]; done)) | (focus (intro i hi; simp at hi ⊢; simp [hi]; done)) | (focus (intro i hi; simp at hi ⊢; omega)))))))).mono ?_); rintro _ _ ⟨a7, c7, rfl, ⟨e7, rfl⟩, ho7⟩; have HO7 := hid ho7; clear ho7))
        refine M2.TreeQ.mk (by (try unfold Ov); repeat (first | with_reducible exact ex_over | with_reducible exact over_self _ | with_reducible refine ex_undrew ?_ | with_reducible refine ex_into ?_ _ | with_reducible refine ex_alloc ?_ _ | with_reducible refine ex_drew ?_ | ((with_reducible refine ex_setCell ?_ ?_ _); rotate_left; (first | omega | (focus (simp; done)) | (focus (simp; omega)))) | ((with_reducible refine ex_chg ?_ _ ?_); rotate_left; (first | assumption | (exact Hid.out (by assumption)))) | exact ex_over)) ?_
        refine M2.tree_e (k := 6) rfl ?_ ?_
        · go_wp2_with ((go_at_call 28; (with_reducible refine (HP.out _ (TabW.ch HT0.out (by repeat (first | with_reducible exact C.out | (focus (refine ChS.chg ?_; (repeat (first | with_reducible exact ChS.refl _ _ | with_reducible refine ChS.drewl ?_ | with_reducible refine ChS.drewr ?_ | with_reducible refine ChS.over ?_ _ | with_reducible refine chS_chgs ?_ _ | ((with_reducible refine chS_set ?_ _ ?_ _); rotate_left; (first | assumption | (focus (simp; done)) | (focus (simp; assumption)))) | with_reducible refine ChS.alloc ?_ _ | ((with_reducible refine ChS.lit ?_ ?_ _ _); rotate_left; (first | assumption | (focus (simp; done)) | (focus (simp; assumption)))) | with_reducible refine ChS.alloc ?_ _)); done)) | with_reducible refine Chg.alloc ?_ _ | with_reducible refine Chg.drew ?_ | with_reducible refine Chg.on ?_ _ | ((with_reducible refine Chg.setCell ?_ ?_ _); rotate_left; (first | (focus (left; assumption)) | (focus (left; simp; done)) | (focus (right; simp; done)) | (focus (right; simp; omega)) | (focus (left; simp; omega)))) | ((with_reducible refine Chg.in_ ?_ _ ?_); rotate_left; (first | assumption | (focus (intro i hi; left; simp at hi; subst hi; assumption)) | exact fun i hi => Or.inl hi | (focus (intro i hi; left; simp [hi]; done)) | (focus (intro i hi; left; simp at hi ⊢; simp [hi]; done)) | (focus (intro i hi; simp at hi ⊢; simp [hi]; done)) | (focus (intro i hi; simp at hi ⊢; omega)))))) h0F) (HS7.out _ (by repeat (first | with_reducible exact Chg.refl _ _ | (focus (refine ChS.chg ?_; (repeat (first | with_reducible exact ChS.refl _ _ | with_reducible refine ChS.drewl ?_ | with_reducible refine ChS.drewr ?_ | with_reducible refine ChS.over ?_ _ | with_reducible refine chS_chgs ?_ _ | ((with_reducible refine chS_set ?_ _ ?_ _); rotate_left; (first | assumption | (focus (simp; done)) | (focus (simp; assumption)))) | with_reducible refine ChS.alloc ?_ _ | ((with_reducible refine ChS.lit ?_ ?_ _ _); rotate_left; (first | assumption | (focus (simp; done)) | (focus (simp; assumption)))) | with_reducible refine ChS.alloc ?_ _)); done)) | with_reducible refine Chg.alloc ?_ _ | with_reducible refine Chg.drew ?_ | with_reducible refine Chg.on ?_ _ | ((with_reducible refine Chg.setCell ?_ ?_ _); rotate_left; (first | (focus (left; assumption)) | (focus (left; simp; done)) | (focus (right; simp; done)) | (focus (right; simp; omega)) | (focus (left; simp; omega)))) | ((with_reducible refine Chg.in_ ?_ _ ?_); rotate_left; (first | assumption | (focus (intro i hi; left; simp at hi; subst hi; assumption)) | exact fun i hi => Or.inl hi | (focus (intro i hi; left; simp [hi]; done)) | (focus (intro i hi; left; simp at hi ⊢; simp [hi]; done)) | (focus (intro i hi; simp at hi ⊢; simp [hi]; done)) | (focus (intro i hi; simp at hi ⊢; omega)))))))).mono ?_); rintro _ _ ⟨a7, c7, rfl, ⟨e7, rfl⟩, ho7⟩; have HO7 := hid ho7; clear ho7))
          refine M2.TreeQ.mk (by (try unfold Ov); repeat (first | with_reducible exact ex_over | with_reducible exact over_self _ | with_reducible refine ex_undrew ?_ | with_reducible refine ex_into ?_ _ | with_reducible refine ex_alloc ?_ _ | with_reducible refine ex_drew ?_ | ((with_reducible refine ex_setCell ?_ ?_ _); rotate_left; (first | omega | (focus (simp; done)) | (focus (simp; omega)))) | ((with_reducible refine ex_chg ?_ _ ?_); rotate_left; (first | assumption | (exact Hid.out (by assumption)))) | exact ex_over)) ?_
          refine M2.tree_q (k := 7) rfl rfl ?_
          go_big_quiet_step (fail)
          with_reducible refine wpQuiet_nil ?_
          refine M2.tree_q (k := 8) rfl rfl ?_
          go_big_quiet_step (fail)
          with_reducible refine wpQuiet_nil ?_
          refine M2.tree_q (k := 9) rfl rfl ?_
          go_big_quiet_step (fail)
          with_reducible refine wpQuiet_nil ?_
          refine M2.tree_q (k := 10) rfl rfl ?_
          go_big_quiet_step (fail)
          with_reducible refine wpQuiet_nil ?_
          refine M2.tree_e (k := 12) rfl ?_ ?_
          · go_wp2_with ((go_at_call 28; (with_reducible refine (HP.out _ (TabW.ch HT0.out (by repeat (first | with_reducible exact C.out | (focus (refine ChS.chg ?_; (repeat (first | with_reducible exact ChS.refl _ _ | with_reducible refine ChS.drewl ?_ | with_reducible refine ChS.drewr ?_ | with_reducible refine ChS.over ?_ _ | with_reducible refine chS_chgs ?_ _ | ((with_reducible refine chS_set ?_ _ ?_ _); rotate_left; (first | assumption | (focus (simp; done)) | (focus (simp; assumption)))) | with_reducible refine ChS.alloc ?_ _ | ((with_reducible refine ChS.lit ?_ ?_ _ _); rotate_left; (first | assumption | (focus (simp; done)) | (focus (simp; assumption)))) | with_reducible refine ChS.alloc ?_ _)); done)) | with_reducible refine Chg.alloc ?_ _ | with_reducible refine Chg.drew ?_ | with_reducible refine Chg.on ?_ _ | ((with_reducible refine Chg.setCell ?_ ?_ _); rotate_left; (first | (focus (left; assumption)) | (focus (left; simp; done)) | (focus (right; simp; done)) | (focus (right; simp; omega)) | (focus (left; simp; omega)))) | ((with_reducible refine Chg.in_ ?_ _ ?_); rotate_left; (first | assumption | (focus (intro i hi; left; simp at hi; subst hi; assumption)) | exact fun i hi => Or.inl hi | (focus (intro i hi; left; simp [hi]; done)) | (focus (intro i hi; left; simp at hi ⊢; simp [hi]; done)) | (focus (intro i hi; simp at hi ⊢; simp [hi]; done)) | (focus (intro i hi; simp at hi ⊢; omega)))))) h0F) (HS7.out _ (by repeat (first | with_reducible exact Chg.refl _ _ | (focus (refine ChS.chg ?_; (repeat (first | with_reducible exact ChS.refl _ _ | with_reducible refine ChS.drewl ?_ | with_reducible refine ChS.drewr ?_ | with_reducible refine ChS.over ?_ _ | with_reducible refine chS_chgs ?_ _ | ((with_reducible refine chS_set ?_ _ ?_ _); rotate_left; (first | assumption | (focus (simp; done)) | (focus (simp; assumption)))) | with_reducible refine ChS.alloc ?_ _ | ((with_reducible refine ChS.lit ?_ ?_ _ _); rotate_left; (first | assumption | (focus (simp; done)) | (focus (simp; assumption)))) | with_reducible refine ChS.alloc ?_ _)); done)) | with_reducible refine Chg.alloc ?_ _ | with_reducible refine Chg.drew ?_ | with_reducible refine Chg.on ?_ _ | ((with_reducible refine Chg.setCell ?_ ?_ _); rotate_left; (first | (focus (left; assumption)) | (focus (left; simp; done)) | (focus (right; simp; done)) | (focus (right; simp; omega)) | (focus (left; simp; omega)))) | ((with_reducible refine Chg.in_ ?_ _ ?_); rotate_left; (first | assumption | (focus (intro i hi; left; simp at hi; subst hi; assumption)) | exact fun i hi => Or.inl hi | (focus (intro i hi; left; simp [hi]; done)) | (focus (intro i hi; left; simp at hi ⊢; simp [hi]; done)) | (focus (intro i hi; simp at hi ⊢; simp [hi]; done)) | (focus (intro i hi; simp at hi ⊢; omega)))))))).mono ?_); rintro _ _ ⟨a7, c7, rfl, ⟨e7, rfl⟩, ho7⟩; have HO7 := hid ho7; clear ho7))
            refine M2.TreeQ.mk (by (try unfold Ov); repeat (first | with_reducible exact ex_over | with_reducible exact over_self _ | with_reducible refine ex_undrew ?_ | with_reducible refine ex_into ?_ _ | with_reducible refine ex_alloc ?_ _ | with_reducible refine ex_drew ?_ | ((with_reducible refine ex_setCell ?_ ?_ _); rotate_left; (first | omega | (focus (simp; done)) | (focus (simp; omega)))) | ((with_reducible refine ex_chg ?_ _ ?_); rotate_left; (first | assumption | (exact Hid.out (by assumption)))) | exact ex_over)) ?_
            refine M2.tree_e (k := 13) rfl ?_ ?_
            · go_wp2_with ((go_at_call 28; (with_reducible refine (HP.out _ (TabW.ch HT0.out (by repeat (first | with_reducible exact C.out | (focus (refine ChS.chg ?_; (repeat (first | with_reducible exact ChS.refl _ _ | with_reducible refine ChS.drewl ?_ | with_reducible refine ChS.drewr ?_ | with_reducible refine ChS.over ?_ _ | with_reducible refine chS_chgs ?_ _ | ((with_reducible refine chS_set ?_ _ ?_ _); rotate_left; (first | assumption | (focus (simp; done)) | (focus (simp; assumption)))) | with_reducible refine ChS.alloc ?_ _ | ((with_reducible refine ChS.lit ?_ ?_ _ _); rotate_left; (first | assumption | (focus (simp; done)) | (focus (simp; assumption)))) | with_reducible refine ChS.alloc ?_ _)); done)) | with_reducible refine Chg.alloc ?_ _ | with_reducible refine Chg.drew ?_ | with_reducible refine Chg.on ?_ _ | ((with_reducible refine Chg.setCell ?_ ?_ _); rotate_left; (first | (focus (left; assumption)) | (focus (left; simp; done)) | (focus (right; simp; done)) | (focus (right; simp; omega)) | (focus (left; simp; omega)))) | ((with_reducible refine Chg.in_ ?_ _ ?_); rotate_left; (first | assumption | (focus (intro i hi; left; simp at hi; subst hi; assumption)) | exact fun i hi => Or.inl hi | (focus (intro i hi; left; simp [hi]; done)) | (focus (intro i hi; left; simp at hi ⊢; simp [hi]; done)) | (focus (intro i hi; simp at hi ⊢; simp [hi]; done)) | (focus (intro i hi; simp at hi ⊢; omega)))))) h0F) (HS7.out _ (by repeat (first | with_reducible exact Chg.refl _ _ | (focus (refine ChS.chg ?_; (repeat (first | with_reducible exact ChS.refl _ _ | with_reducible refine ChS.drewl ?_ | with_reducible refine ChS.drewr ?_ | with_reducible refine ChS.over ?_ _ | with_reducible refine chS_chgs ?_ _ | ((with_reducible refine chS_set ?_ _ ?_ _); rotate_left; (first | assumption | (focus (simp; done)) | (focus (simp; assumption)))) | with_reducible refine ChS.alloc ?_ _ | ((with_reducible refine ChS.lit ?_ ?_ _ _); rotate_left; (first | assumption | (focus (simp; done)) | (focus (simp; assumption)))) | with_reducible refine ChS.alloc ?_ _)); done)) | with_reducible refine Chg.alloc ?_ _ | with_reducible refine Chg.drew ?_ | with_reducible refine Chg.on ?_ _ | ((with_reducible refine Chg.setCell ?_ ?_ _); rotate_left; (first | (focus (left; assumption)) | (focus (left; simp; done)) | (focus (right; simp; done)) | (focus (right; simp; omega)) | (focus (left; simp; omega)))) | ((with_reducible refine Chg.in_ ?_ _ ?_); rotate_left; (first | assumption | (focus (intro i hi; left; simp at hi; subst hi; assumption)) | exact fun i hi => Or.inl hi | (focus (intro i hi; left; simp [hi]; done)) | (focus (intro i hi; left; simp at hi ⊢; simp [hi]; done)) | (focus (intro i hi; simp at hi ⊢; simp [hi]; done)) | (focus (intro i hi; simp at hi ⊢; omega)))))))).mono ?_); rintro _ _ ⟨a7, c7, rfl, ⟨e7, rfl⟩, ho7⟩; have HO7 := hid ho7; clear ho7))
              refine M2.TreeQ.mk (by (try unfold Ov); repeat (first | with_reducible exact ex_over | with_reducible exact over_self _ | with_reducible refine ex_undrew ?_ | with_reducible refine ex_into ?_ _ | with_reducible refine ex_alloc ?_ _ | with_reducible refine ex_drew ?_ | ((with_reducible refine ex_setCell ?_ ?_ _); rotate_left; (first | omega | (focus (simp; done)) | (focus (simp; omega)))) | ((with_reducible refine ex_chg ?_ _ ?_); rotate_left; (first | assumption | (exact Hid.out (by assumption)))) | exact ex_over)) ?_
              refine M2.tree_e (k := 14) rfl ?_ ?_
              · go_wp2_with ((go_at_call 28; (with_reducible refine (HP.out _ (TabW.ch HT0.out (by repeat (first | with_reducible exact C.out | (focus (refine ChS.chg ?_; (repeat (first | with_reducible exact ChS.refl _ _ | with_reducible refine ChS.drewl ?_ | with_reducible refine ChS.drewr ?_ | with_reducible refine ChS.over ?_ _ | with_reducible refine chS_chgs ?_ _ | ((with_reducible refine chS_set ?_ _ ?_ _); rotate_left; (first | assumption | (focus (simp; done)) | (focus (simp; assumption)))) | with_reducible refine ChS.alloc ?_ _ | ((with_reducible refine ChS.lit ?_ ?_ _ _); rotate_left; (first | assumption | (focus (simp; done)) | (focus (simp; assumption)))) | with_reducible refine ChS.alloc ?_ _)); done)) | with_reducible refine Chg.alloc ?_ _ | with_reducible refine Chg.drew ?_ | with_reducible refine Chg.on ?_ _ | ((with_reducible refine Chg.setCell ?_ ?_ _); rotate_left; (first | (focus (left; assumption)) | (focus (left; simp; done)) | (focus (right; simp; done)) | (focus (right; simp; omega)) | (focus (left; simp; omega)))) | ((with_reducible refine Chg.in_ ?_ _ ?_); rotate_left; (first | assumption | (focus (intro i hi; left; simp at hi; subst hi; assumption)) | exact fun i hi => Or.inl hi | (focus (intro i hi; left; simp [hi]; done)) | (focus (intro i hi; left; simp at hi ⊢; simp [hi]; done)) | (focus (intro i hi; simp at hi ⊢; simp [hi]; done)) | (focus (intro i hi; simp at hi ⊢; omega)))))) h0F) (HS7.out _ (by repeat (first | with_reducible exact Chg.refl _ _ | (focus (refine ChS.chg ?_; (repeat (first | with_reducible exact ChS.refl _ _ | with_reducible refine ChS.drewl ?_ | with_reducible refine ChS.drewr ?_ | with_reducible refine ChS.over ?_ _ | with_reducible refine chS_chgs ?_ _ | ((with_reducible refine chS_set ?_ _ ?_ _); rotate_left; (first | assumption | (focus (simp; done)) | (focus (simp; assumption)))) | with_reducible refine ChS.alloc ?_ _ | ((with_reducible refine ChS.lit ?_ ?_ _ _); rotate_left; (first | assumption | (focus (simp; done)) | (focus (simp; assumption)))) | with_reducible refine ChS.alloc ?_ _)); done)) | with_reducible refine Chg.alloc ?_ _ | with_reducible refine Chg.drew ?_ | with_reducible refine Chg.on ?_ _ | ((with_reducible refine Chg.setCell ?_ ?_ _); rotate_left; (first | (focus (left; assumption)) | (focus (left; simp; done)) | (focus (right; simp; done)) | (focus (right; simp; omega)) | (focus (left; simp; omega)))) | ((with_reducible refine Chg.in_ ?_ _ ?_); rotate_left; (first | assumption | (focus (intro i hi; left; simp at hi; subst hi; assumption)) | exact fun i hi => Or.inl hi | (focus (intro i hi; left; simp [hi]; done)) | (focus (intro i hi; left; simp at hi ⊢; simp [hi]; done)) | (focus (intro i hi; simp at hi ⊢; simp [hi]; done)) | (focus (intro i hi; simp at hi ⊢; omega)))))))).mono ?_); rintro _ _ ⟨a7, c7, rfl, ⟨e7, rfl⟩, ho7⟩; have HO7 := hid ho7; clear ho7))
                refine M2.TreeQ.mk (by (try unfold Ov); repeat (first | with_reducible exact ex_over | with_reducible exact over_self _ | with_reducible refine ex_undrew ?_ | with_reducible refine ex_into ?_ _ | with_reducible refine ex_alloc ?_ _ | with_reducible refine ex_drew ?_ | ((with_reducible refine ex_setCell ?_ ?_ _); rotate_left; (first | omega | (focus (simp; done)) | (focus (simp; omega)))) | ((with_reducible refine ex_chg ?_ _ ?_); rotate_left; (first | assumption | (exact Hid.out (by assumption)))) | exact ex_over)) ?_
                refine M2.tree_q (k := 15) rfl rfl ?_
                go_big_quiet_step (fail)
                with_reducible refine wpQuiet_nil ?_
                refine M2.tree_done ?_
                refine gen_w ?_
                intro W7 hW7
                have C7 : Hid (Chg F W0 W7) := hid (by rw [hW7]; exact (by repeat (first | with_reducible exact C.out | (focus (refine ChS.chg ?_; (repeat (first | with_reducible exact ChS.refl _ _ | with_reducible refine ChS.drewl ?_ | with_reducible refine ChS.drewr ?_ | with_reducible refine ChS.over ?_ _ | with_reducible refine chS_chgs ?_ _ | ((with_reducible refine chS_set ?_ _ ?_ _); rotate_left; (first | assumption | (focus (simp; done)) | (focus (simp; assumption)))) | with_reducible refine ChS.alloc ?_ _ | ((with_reducible refine ChS.lit ?_ ?_ _ _); rotate_left; (first | assumption | (focus (simp; done)) | (focus (simp; assumption)))) | with_reducible refine ChS.alloc ?_ _)); done)) | with_reducible refine Chg.alloc ?_ _ | with_reducible refine Chg.drew ?_ | with_reducible refine Chg.on ?_ _ | ((with_reducible refine Chg.setCell ?_ ?_ _); rotate_left; (first | (focus (left; assumption)) | (focus (left; simp; done)) | (focus (right; simp; done)) | (focus (right; simp; omega)) | (focus (left; simp; omega)))) | ((with_reducible refine Chg.in_ ?_ _ ?_); rotate_left; (first | assumption | (focus (intro i hi; left; simp at hi; subst hi; assumption)) | exact fun i hi => Or.inl hi | (focus (intro i hi; left; simp [hi]; done)) | (focus (intro i hi; left; simp at hi ⊢; simp [hi]; done)) | (focus (intro i hi; simp at hi ⊢; simp [hi]; done)) | (focus (intro i hi; simp at hi ⊢; omega)))))))
                have D7 : Hid (Blk W7 p7 [.slice a3 (pack L).length c3, .int .i64 (L.length : Nat)] 29) := hid (by rw [hW7]; exact (by repeat (first | with_reducible exact HB7.out | with_reducible refine Blk.alloc ?_ _ | with_reducible refine Blk.drew ?_ | with_reducible refine Blk.on ?_ _ | ((with_reducible refine Blk.chg ?_ (chg_chg _ _ _) ?_); rotate_left; (first | assumption | (focus (simp; done)) | (focus (simp; omega)))) | with_reducible refine Blk.set ?_ _ _ | ((with_reducible refine Blk.set_ne ?_ ?_ _); rotate_left; (first | assumption | (focus (simp; done)) | (focus (simp; omega)))))))
                have D8 : Hid (Blk W7 p8 t.cs 42) := hid (by rw [hW7]; exact (by repeat (first | with_reducible exact HB8.out | with_reducible refine Blk.alloc ?_ _ | with_reducible refine Blk.drew ?_ | with_reducible refine Blk.on ?_ _ | ((with_reducible refine Blk.chg ?_ (chg_chg _ _ _) ?_); rotate_left; (first | assumption | (focus (simp; done)) | (focus (simp; omega)))) | with_reducible refine Blk.set ?_ _ _ | ((with_reducible refine Blk.set_ne ?_ ?_ _); rotate_left; (first | assumption | (focus (simp; done)) | (focus (simp; omega)))))))
                have D14 : Hid (Blk W7 p14 t.cs 42) := hid (by rw [hW7]; exact (by repeat (first | with_reducible exact HB14.out | with_reducible refine Blk.alloc ?_ _ | with_reducible refine Blk.drew ?_ | with_reducible refine Blk.on ?_ _ | ((with_reducible refine Blk.chg ?_ (chg_chg _ _ _) ?_); rotate_left; (first | assumption | (focus (simp; done)) | (focus (simp; omega)))) | with_reducible refine Blk.set ?_ _ _ | ((with_reducible refine Blk.set_ne ?_ ?_ _); rotate_left; (first | assumption | (focus (simp; done)) | (focus (simp; omega)))))))
                have D10 : Hid (Blk W7 p10 [.slice a5 (pack LA).length c5, .int .i64 (LA.length : Nat)] 29) := hid (by rw [hW7]; exact (by repeat (first | with_reducible exact HB10.out | with_reducible refine Blk.alloc ?_ _ | with_reducible refine Blk.drew ?_ | with_reducible refine Blk.on ?_ _ | ((with_reducible refine Blk.chg ?_ (chg_chg _ _ _) ?_); rotate_left; (first | assumption | (focus (simp; done)) | (focus (simp; omega)))) | with_reducible refine Blk.set ?_ _ _ | ((with_reducible refine Blk.set_ne ?_ ?_ _); rotate_left; (first | assumption | (focus (simp; done)) | (focus (simp; omega)))))))
                have N16 : Hid (Blk W7 (wr.heap.size) [.slice a7 (pack L').length c7, .int .i64 (L'.length : Nat)] 29) := hid (by rw [hW7]; exact (by repeat (first | exact Blk.new' (by simp; done) | exact Blk.new' rfl | with_reducible assumption | with_reducible refine Blk.alloc ?_ _ | with_reducible refine Blk.drew ?_ | with_reducible refine Blk.on ?_ _ | ((with_reducible refine Blk.chg ?_ (chg_chg _ _ _) ?_); rotate_left; (first | assumption | (focus (simp; done)) | (focus (simp; omega)))))))
                have N17 : Hid (Blk W7 (wr.heap.size + 1 + e7.heap.size) t'.cs 42) := hid (by rw [hW7]; exact (by repeat (first | exact Blk.new' (by simp; done) | exact Blk.new' rfl | with_reducible assumption | with_reducible refine Blk.alloc ?_ _ | with_reducible refine Blk.drew ?_ | with_reducible refine Blk.on ?_ _ | ((with_reducible refine Blk.chg ?_ (chg_chg _ _ _) ?_); rotate_left; (first | assumption | (focus (simp; done)) | (focus (simp; omega)))))))
                have AB : Hid (OwnB wr.heap.size W7 (.slice a7 (pack L').length c7) (pack L')) := hid (by rw [hW7]; (repeat (first | with_reducible refine Own.alloc ?_ _ | with_reducible refine Own.drew ?_)); exact Own.mono (Own.over_swap HO7.out (by first | exact Nat.le_refl _ | rfl | omega | (simp; done) | (simp; omega)) (by first | exact Nat.le_refl _ | rfl | omega | (simp; done) | (simp; omega))) (by first | exact Nat.le_refl _ | rfl | omega | (simp; done) | (simp; omega)))
                have hwW : wr.heap.size ≤ W7.heap.size := by rw [hW7]; simp; try omega
                clear hW7
                obtain ⟨p16, hp16⟩ : ∃ p, p = (wr.heap.size) := ⟨_, rfl⟩
                obtain ⟨p17, hp17⟩ : ∃ p, p = (wr.heap.size + 1 + e7.heap.size) := ⟨_, rfl⟩
                first
                  | (rw [← hp17] at N17 ⊢; rw [← hp16] at N16 ⊢)
                  | (rw [← hp16] at N16 ⊢; rw [← hp17] at N17 ⊢)
                have n167 : ¬ p16 = p7 := by omega
                have n168 : ¬ p16 = p8 := by omega
                have n1614 : ¬ p16 = p14 := by omega
                have n177 : ¬ p17 = p7 := by omega
                have n178 : ¬ p17 = p8 := by omega
                have n1714 : ¬ p17 = p14 := by omega
                clear hp16 hp17
                clear r70 r71 g70 g71 l7 r80 r81 r82 r83 r84 r85 r86 g80 g81 g82 g83 g84 g85 g86 l8 r140 r141 r142 r143 r144 r145 r146 g140 g141 g142 g143 g144 g145 g146 l14 r100 r101 l10
                clear kr0 kr1 hbr
                obtain ⟨b6', o6', hb6', hbr, kr0, kr1⟩ := SlM.at_ (HS2.out W7 C7.out) hlt
                cases hb6'
                rw [HX6.out] at kr0 kr1
                have r70 := D7.out.cell 0 rfl
                have r71 := D7.out.cell 1 rfl
                have g70 := D7.out.free 0
                have g71 := D7.out.free 1
                have l7 := D7.out.lt
                have r80 := D8.out.cell 0 rfl
                have r81 := D8.out.cell 1 rfl
                have r82 := D8.out.cell 2 rfl
                have r83 := D8.out.cell 3 rfl
                have r84 := D8.out.cell 4 rfl
                have r85 := D8.out.cell 5 rfl
                have r86 := D8.out.cell 6 rfl
                have g80 := D8.out.free 0
                have g81 := D8.out.free 1
                have g82 := D8.out.free 2
                have g83 := D8.out.free 3
                have g84 := D8.out.free 4
                have g85 := D8.out.free 5
                have g86 := D8.out.free 6
                have l8 := D8.out.lt
                have r140 := D14.out.cell 0 rfl
                have r141 := D14.out.cell 1 rfl
                have r142 := D14.out.cell 2 rfl
                have r143 := D14.out.cell 3 rfl
                have r144 := D14.out.cell 4 rfl
                have r145 := D14.out.cell 5 rfl
                have r146 := D14.out.cell 6 rfl
                have g140 := D14.out.free 0
                have g141 := D14.out.free 1
                have g142 := D14.out.free 2
                have g143 := D14.out.free 3
                have g144 := D14.out.free 4
                have g145 := D14.out.free 5
                have g146 := D14.out.free 6
                have l14 := D14.out.lt
                have r100 := D10.out.cell 0 rfl
                have r101 := D10.out.cell 1 rfl
                have l10 := D10.out.lt
                have r160 := N16.out.cell 0 rfl
                have r161 := N16.out.cell 1 rfl
                have l16 := N16.out.lt
                have r170 := N17.out.cell 0 rfl
                have r171 := N17.out.cell 1 rfl
                have r172 := N17.out.cell 2 rfl
                have r173 := N17.out.cell 3 rfl
                have r174 := N17.out.cell 4 rfl
                have r175 := N17.out.cell 5 rfl
                have r176 := N17.out.cell 6 rfl
                have l17 := N17.out.lt
                have m61 : ∀ x, b6 < W7.heap.size + x := fun x => by omega
                have m62 : ∀ x y, b6 < W7.heap.size + x + y := fun x y => by omega
                have m63 : ∀ x y z, b6 < W7.heap.size + x + y + z := fun x y z => by omega
                have m71 : ∀ x, p17 < W7.heap.size + x := fun x => by omega
                have m72 : ∀ x y, p17 < W7.heap.size + x + y := fun x y => by omega
                have m73 : ∀ x y z, p17 < W7.heap.size + x + y + z := fun x y z => by omega
                go_wp2_with (go_at_call 34; (with_reducible refine (HG'.out _ (TabW.ch HT0.out C7.out h0F) (HA.out _ C7.out)).mono ?_); rintro _ _ ⟨⟨e8, rfl⟩, rfl⟩)
                refine wp_region_over (by kernel_rfl) (by kernel_rfl) ?_
                repeat (go_big_quiet_step ((fail)))
                refine wpQuiet_nil ?_
                intro _ hw'
                obtain ⟨nq, rfl⟩ := hw'
                refine gen_w ?_
                intro W9 hW9
                have C9 : Hid (Chg F W0 W9) := hid (by rw [hW9]; exact (by repeat (first | with_reducible exact C7.out | (focus (refine ChS.chg ?_; (repeat (first | with_reducible exact ChS.refl _ _ | with_reducible refine ChS.drewl ?_ | with_reducible refine ChS.drewr ?_ | with_reducible refine ChS.over ?_ _ | with_reducible refine chS_chgs ?_ _ | ((with_reducible refine chS_set ?_ _ ?_ _); rotate_left; (first | assumption | (focus (simp; done)) | (focus (simp; assumption)))) | with_reducible refine ChS.alloc ?_ _ | ((with_reducible refine ChS.lit ?_ ?_ _ _); rotate_left; (first | assumption | (focus (simp; done)) | (focus (simp; assumption)))) | with_reducible refine ChS.alloc ?_ _)); done)) | with_reducible refine Chg.alloc ?_ _ | with_reducible refine Chg.drew ?_ | with_reducible refine Chg.on ?_ _ | ((with_reducible refine Chg.setCell ?_ ?_ _); rotate_left; (first | (focus (left; assumption)) | (focus (left; simp; done)) | (focus (right; simp; done)) | (focus (right; simp; omega)) | (focus (left; simp; omega)))) | ((with_reducible refine Chg.in_ ?_ _ ?_); rotate_left; (first | assumption | (focus (intro i hi; left; simp at hi; subst hi; assumption)) | exact fun i hi => Or.inl hi | (focus (intro i hi; left; simp [hi]; done)) | (focus (intro i hi; left; simp at hi ⊢; simp [hi]; done)) | (focus (intro i hi; simp at hi ⊢; simp [hi]; done)) | (focus (intro i hi; simp at hi ⊢; omega)))))))
                have E7 : Hid (Blk W9 p7 [.slice a3 (pack L).length c3, .int .i64 (L.length : Nat)] 29) := hid (by rw [hW9]; exact (by repeat (first | with_reducible exact D7.out | with_reducible refine Blk.alloc ?_ _ | with_reducible refine Blk.drew ?_ | with_reducible refine Blk.on ?_ _ | ((with_reducible refine Blk.chg ?_ (chg_chg _ _ _) ?_); rotate_left; (first | assumption | (focus (simp; done)) | (focus (simp; omega)))) | with_reducible refine Blk.set ?_ _ _ | ((with_reducible refine Blk.set_ne ?_ ?_ _); rotate_left; (first | assumption | (focus (simp; done)) | (focus (simp; omega)))))))
                have E8 : Hid (Blk W9 p8 t.cs 42) := hid (by rw [hW9]; exact (by repeat (first | with_reducible exact D8.out | with_reducible refine Blk.alloc ?_ _ | with_reducible refine Blk.drew ?_ | with_reducible refine Blk.on ?_ _ | ((with_reducible refine Blk.chg ?_ (chg_chg _ _ _) ?_); rotate_left; (first | assumption | (focus (simp; done)) | (focus (simp; omega)))) | with_reducible refine Blk.set ?_ _ _ | ((with_reducible refine Blk.set_ne ?_ ?_ _); rotate_left; (first | assumption | (focus (simp; done)) | (focus (simp; omega)))))))
                have E14 : Hid (Blk W9 p14 t.cs 42) := hid (by rw [hW9]; exact (by repeat (first | with_reducible exact D14.out | with_reducible refine Blk.alloc ?_ _ | with_reducible refine Blk.drew ?_ | with_reducible refine Blk.on ?_ _ | ((with_reducible refine Blk.chg ?_ (chg_chg _ _ _) ?_); rotate_left; (first | assumption | (focus (simp; done)) | (focus (simp; omega)))) | with_reducible refine Blk.set ?_ _ _ | ((with_reducible refine Blk.set_ne ?_ ?_ _); rotate_left; (first | assumption | (focus (simp; done)) | (focus (simp; omega)))))))
                have E10 : Hid (Blk W9 p10 [.slice a5 (pack LA).length c5, .int .i64 (LA.length : Nat)] 29) := hid (by rw [hW9]; exact (by repeat (first | with_reducible exact D10.out | with_reducible refine Blk.alloc ?_ _ | with_reducible refine Blk.drew ?_ | with_reducible refine Blk.on ?_ _ | ((with_reducible refine Blk.chg ?_ (chg_chg _ _ _) ?_); rotate_left; (first | assumption | (focus (simp; done)) | (focus (simp; omega)))) | with_reducible refine Blk.set ?_ _ _ | ((with_reducible refine Blk.set_ne ?_ ?_ _); rotate_left; (first | assumption | (focus (simp; done)) | (focus (simp; omega)))))))
                have E16 : Hid (Blk W9 p16 [.slice a7 (pack L').length c7, .int .i64 (L'.length : Nat)] 29) := hid (by rw [hW9]; exact (by repeat (first | with_reducible exact N16.out | with_reducible refine Blk.alloc ?_ _ | with_reducible refine Blk.drew ?_ | with_reducible refine Blk.on ?_ _ | ((with_reducible refine Blk.chg ?_ (chg_chg _ _ _) ?_); rotate_left; (first | assumption | (focus (simp; done)) | (focus (simp; omega)))) | with_reducible refine Blk.set ?_ _ _ | ((with_reducible refine Blk.set_ne ?_ ?_ _); rotate_left; (first | assumption | (focus (simp; done)) | (focus (simp; omega)))))))
                have E17 : Hid (Blk W9 p17 t'.cs 42) := hid (by rw [hW9]; exact (by repeat (first | with_reducible exact N17.out | with_reducible refine Blk.alloc ?_ _ | with_reducible refine Blk.drew ?_ | with_reducible refine Blk.on ?_ _ | ((with_reducible refine Blk.chg ?_ (chg_chg _ _ _) ?_); rotate_left; (first | assumption | (focus (simp; done)) | (focus (simp; omega)))) | with_reducible refine Blk.set ?_ _ _ | ((with_reducible refine Blk.set_ne ?_ ?_ _); rotate_left; (first | assumption | (focus (simp; done)) | (focus (simp; omega)))))))
                have E21 : Hid (Blk W9 (W7.heap.size + e8.heap.size + 1) t'.cs 42) := hid (by rw [hW9]; (repeat (first | with_reducible refine Blk.on ?_ _ | with_reducible refine Blk.drew ?_)); exact Blk.new' (by simp))
                have AB9 : Hid (OwnB wr.heap.size W9 (.slice a7 (pack L').length c7) (pack L')) := hid (by rw [hW9]; exact (by repeat (first | with_reducible exact AB.out | ((with_reducible refine Own.set_ne ?_ ?_ _); rotate_left; (first | assumption | (focus (simp; done)) | (focus (simp [Value.ownBlock]; done)) | (focus (simp [Value.ownBlock]; omega)))) | ((with_reducible refine Own.in_some ?_ _ ?_); rotate_left; (first | assumption | (focus (simp; done)) | (focus (simp; omega)))) | ((with_reducible refine Own.in_one ?_ _ ?_); rotate_left; (first | assumption | (focus (simp [Value.ownBlock]; done)) | (focus (simp [Value.ownBlock]; omega)))) | ((with_reducible refine Own.chg ?_ (chg_chg _ _ _) ?_); rotate_left; (first | assumption | (focus (simp; done)) | (focus (simp; omega)))) | with_reducible refine Own.over ?_ _ | with_reducible refine Own.alloc ?_ _ | with_reducible refine Own.drew ?_ | exact AB.out)))
                have hwW9 : W7.heap.size + e8.heap.size + 1 < W9.heap.size := E21.out.lt
                clear hW9
                obtain ⟨p21, hp21⟩ : ∃ p, p = W7.heap.size + e8.heap.size + 1 := ⟨_, rfl⟩
                rw [← hp21] at E21 ⊢
                have n217 : ¬ p21 = p7 := by omega
                have n218 : ¬ p21 = p8 := by omega
                have n2114 : ¬ p21 = p14 := by omega
                clear hp21
                clear r70 r71 g70 g71 l7 r80 r81 r82 r83 r84 r85 r86 g80 g81 g82 g83 g84 g85 g86 l8 r140 r141 r142 r143 r144 r145 r146 g140 g141 g142 g143 g144 g145 g146 l14 r100 r101 l10
                clear kr0 kr1 hbr m61 m62 m63 m71 m72 m73 r160 r161 l16 r170 r171 r172 r173 r174 r175 r176 l17
                have r70 := E7.out.cell 0 rfl
                have r71 := E7.out.cell 1 rfl
                have g70 := E7.out.free 0
                have g71 := E7.out.free 1
                have l7 := E7.out.lt
                have r80 := E8.out.cell 0 rfl
                have r81 := E8.out.cell 1 rfl
                have r82 := E8.out.cell 2 rfl
                have r83 := E8.out.cell 3 rfl
                have r84 := E8.out.cell 4 rfl
                have r85 := E8.out.cell 5 rfl
                have r86 := E8.out.cell 6 rfl
                have g80 := E8.out.free 0
                have g81 := E8.out.free 1
                have g82 := E8.out.free 2
                have g83 := E8.out.free 3
                have g84 := E8.out.free 4
                have g85 := E8.out.free 5
                have g86 := E8.out.free 6
                have l8 := E8.out.lt
                have r140 := E14.out.cell 0 rfl
                have r141 := E14.out.cell 1 rfl
                have r142 := E14.out.cell 2 rfl
                have r143 := E14.out.cell 3 rfl
                have r144 := E14.out.cell 4 rfl
                have r145 := E14.out.cell 5 rfl
                have r146 := E14.out.cell 6 rfl
                have g140 := E14.out.free 0
                have g141 := E14.out.free 1
                have g142 := E14.out.free 2
                have g143 := E14.out.free 3
                have g144 := E14.out.free 4
                have g145 := E14.out.free 5
                have g146 := E14.out.free 6
                have l14 := E14.out.lt
                have r100 := E10.out.cell 0 rfl
                have r101 := E10.out.cell 1 rfl
                have l10 := E10.out.lt
                have r160 := E16.out.cell 0 rfl
                have r161 := E16.out.cell 1 rfl
                have l16 := E16.out.lt
                have r170 := E17.out.cell 0 rfl
                have r171 := E17.out.cell 1 rfl
                have r172 := E17.out.cell 2 rfl
                have r173 := E17.out.cell 3 rfl
                have r174 := E17.out.cell 4 rfl
                have r175 := E17.out.cell 5 rfl
                have r176 := E17.out.cell 6 rfl
                have l17 := E17.out.lt
                have r210 := E21.out.cell 0 rfl
                have r211 := E21.out.cell 1 rfl
                have r212 := E21.out.cell 2 rfl
                have r213 := E21.out.cell 3 rfl
                have r214 := E21.out.cell 4 rfl
                have r215 := E21.out.cell 5 rfl
                have r216 := E21.out.cell 6 rfl
                have l21 := E21.out.lt
                go_wp2_with fail
                go_roundw
                case rel =>
                  refine ⟨k + 1, by omega, by go_num, by rw [HL'.out], ?_⟩
                  with_reducible refine go_next C9.out HL'.out HT'.out E7.out E8.out E14.out m7 m8 m14 n78 n714 n814 AB9.out hb4'.out
                case measure => simp [intOf]; omega
              exact M2.tree_no
            exact M2.tree_no
          exact M2.tree_no
        refine M2.tree_e (k := 12) rfl ?_ ?_
        · go_wp2_with ((go_at_call 28; (with_reducible refine (HP.out _ (TabW.ch HT0.out (by repeat (first | with_reducible exact C.out | (focus (refine ChS.chg ?_; (repeat (first | with_reducible exact ChS.refl _ _ | with_reducible refine ChS.drewl ?_ | with_reducible refine ChS.drewr ?_ | with_reducible refine ChS.over ?_ _ | with_reducible refine chS_chgs ?_ _ | ((with_reducible refine chS_set ?_ _ ?_ _); rotate_left; (first | assumption | (focus (simp; done)) | (focus (simp; assumption)))) | with_reducible refine ChS.alloc ?_ _ | ((with_reducible refine ChS.lit ?_ ?_ _ _); rotate_left; (first | assumption | (focus (simp; done)) | (focus (simp; assumption)))) | with_reducible refine ChS.alloc ?_ _)); done)) | with_reducible refine Chg.alloc ?_ _ | with_reducible refine Chg.drew ?_ | with_reducible refine Chg.on ?_ _ | ((with_reducible refine Chg.setCell ?_ ?_ _); rotate_left; (first | (focus (left; assumption)) | (focus (left; simp; done)) | (focus (right; simp; done)) | (focus (right; simp; omega)) | (focus (left; simp; omega)))) | ((with_reducible refine Chg.in_ ?_ _ ?_); rotate_left; (first | assumption | (focus (intro i hi; left; simp at hi; subst hi; assumption)) | exact fun i hi => Or.inl hi | (focus (intro i hi; left; simp [hi]; done)) | (focus (intro i hi; left; simp at hi ⊢; simp [hi]; done)) | (focus (intro i hi; simp at hi ⊢; simp [hi]; done)) | (focus (intro i hi; simp at hi ⊢; omega)))))) h0F) (HS7.out _ (by repeat (first | with_reducible exact Chg.refl _ _ | (focus (refine ChS.chg ?_; (repeat (first | with_reducible exact ChS.refl _ _ | with_reducible refine ChS.drewl ?_ | with_reducible refine ChS.drewr ?_ | with_reducible refine ChS.over ?_ _ | with_reducible refine chS_chgs ?_ _ | ((with_reducible refine chS_set ?_ _ ?_ _); rotate_left; (first | assumption | (focus (simp; done)) | (focus (simp; assumption)))) | with_reducible refine ChS.alloc ?_ _ | ((with_reducible refine ChS.lit ?_ ?_ _ _); rotate_left; (first | assumption | (focus (simp; done)) | (focus (simp; assumption)))) | with_reducible refine ChS.alloc ?_ _)); done)) | with_reducible refine Chg.alloc ?_ _ | with_reducible refine Chg.drew ?_ | with_reducible refine Chg.on ?_ _ | ((with_reducible refine Chg.setCell ?_ ?_ _); rotate_left; (first | (focus (left; assumption)) | (focus (left; simp; done)) | (focus (right; simp; done)) | (focus (right; simp; omega)) | (focus (left; simp; omega)))) | ((with_reducible refine Chg.in_ ?_ _ ?_); rotate_left; (first | assumption | (focus (intro i hi; left; simp at hi; subst hi; assumption)) | exact fun i hi => Or.inl hi | (focus (intro i hi; left; simp [hi]; done)) | (focus (intro i hi; left; simp at hi ⊢; simp [hi]; done)) | (focus (intro i hi; simp at hi ⊢; simp [hi]; done)) | (focus (intro i hi; simp at hi ⊢; omega)))))))).mono ?_); rintro _ _ ⟨a7, c7, rfl, ⟨e7, rfl⟩, ho7⟩; have HO7 := hid ho7; clear ho7))
          refine M2.TreeQ.mk (by (try unfold Ov); repeat (first | with_reducible exact ex_over | with_reducible exact over_self _ | with_reducible refine ex_undrew ?_ | with_reducible refine ex_into ?_ _ | with_reducible refine ex_alloc ?_ _ | with_reducible refine ex_drew ?_ | ((with_reducible refine ex_setCell ?_ ?_ _); rotate_left; (first | omega | (focus (simp; done)) | (focus (simp; omega)))) | ((with_reducible refine ex_chg ?_ _ ?_); rotate_left; (first | assumption | (exact Hid.out (by assumption)))) | exact ex_over)) ?_
          refine M2.tree_e (k := 6) rfl ?_ ?_
          · go_wp2_with ((go_at_call 28; (with_reducible refine (HP.out _ (TabW.ch HT0.out (by repeat (first | with_reducible exact C.out | (focus (refine ChS.chg ?_; (repeat (first | with_reducible exact ChS.refl _ _ | with_reducible refine ChS.drewl ?_ | with_reducible refine ChS.drewr ?_ | with_reducible refine ChS.over ?_ _ | with_reducible refine chS_chgs ?_ _ | ((with_reducible refine chS_set ?_ _ ?_ _); rotate_left; (first | assumption | (focus (simp; done)) | (focus (simp; assumption)))) | with_reducible refine ChS.alloc ?_ _ | ((with_reducible refine ChS.lit ?_ ?_ _ _); rotate_left; (first | assumption | (focus (simp; done)) | (focus (simp; assumption)))) | with_reducible refine ChS.alloc ?_ _)); done)) | with_reducible refine Chg.alloc ?_ _ | with_reducible refine Chg.drew ?_ | with_reducible refine Chg.on ?_ _ | ((with_reducible refine Chg.setCell ?_ ?_ _); rotate_left; (first | (focus (left; assumption)) | (focus (left; simp; done)) | (focus (right; simp; done)) | (focus (right; simp; omega)) | (focus (left; simp; omega)))) | ((with_reducible refine Chg.in_ ?_ _ ?_); rotate_left; (first | assumption | (focus (intro i hi; left; simp at hi; subst hi; assumption)) | exact fun i hi => Or.inl hi | (focus (intro i hi; left; simp [hi]; done)) | (focus (intro i hi; left; simp at hi ⊢; simp [hi]; done)) | (focus (intro i hi; simp at hi ⊢; simp [hi]; done)) | (focus (intro i hi; simp at hi ⊢; omega)))))) h0F) (HS7.out _ (by repeat (first | with_reducible exact Chg.refl _ _ | (focus (refine ChS.chg ?_; (repeat (first | with_reducible exact ChS.refl _ _ | with_reducible refine ChS.drewl ?_ | with_reducible refine ChS.drewr ?_ | with_reducible refine ChS.over ?_ _ | with_reducible refine chS_chgs ?_ _ | ((with_reducible refine chS_set ?_ _ ?_ _); rotate_left; (first | assumption | (focus (simp; done)) | (focus (simp; assumption)))) | with_reducible refine ChS.alloc ?_ _ | ((with_reducible refine ChS.lit ?_ ?_ _ _); rotate_left; (first | assumption | (focus (simp; done)) | (focus (simp; assumption)))) | with_reducible refine ChS.alloc ?_ _)); done)) | with_reducible refine Chg.alloc ?_ _ | with_reducible refine Chg.drew ?_ | with_reducible refine Chg.on ?_ _ | ((with_reducible refine Chg.setCell ?_ ?_ _); rotate_left; (first | (focus (left; assumption)) | (focus (left; simp; done)) | (focus (right; simp; done)) | (focus (right; simp; omega)) | (focus (left; simp; omega)))) | ((with_reducible refine Chg.in_ ?_ _ ?_); rotate_left; (first | assumption | (focus (intro i hi; left; simp at hi; subst hi; assumption)) | exact fun i hi => Or.inl hi | (focus (intro i hi; left; simp [hi]; done)) | (focus (intro i hi; left; simp at hi ⊢; simp [hi]; done)) | (focus (intro i hi; simp at hi ⊢; simp [hi]; done)) | (focus (intro i hi; simp at hi ⊢; omega)))))))).mono ?_); rintro _ _ ⟨a7, c7, rfl, ⟨e7, rfl⟩, ho7⟩; have HO7 := hid ho7; clear ho7))
            refine M2.TreeQ.mk (by (try unfold Ov); repeat (first | with_reducible exact ex_over | with_reducible exact over_self _ | with_reducible refine ex_undrew ?_ | with_reducible refine ex_into ?_ _ | with_reducible refine ex_alloc ?_ _ | with_reducible refine ex_drew ?_ | ((with_reducible refine ex_setCell ?_ ?_ _); rotate_left; (first | omega | (focus (simp; done)) | (focus (simp; omega)))) | ((with_reducible refine ex_chg ?_ _ ?_); rotate_left; (first | assumption | (exact Hid.out (by assumption)))) | exact ex_over)) ?_
            refine M2.tree_q (k := 7) rfl rfl ?_
            go_big_quiet_step (fail)
            with_reducible refine wpQuiet_nil ?_
            refine M2.tree_q (k := 8) rfl rfl ?_
            go_big_quiet_step (fail)
            with_reducible refine wpQuiet_nil ?_
            refine M2.tree_q (k := 9) rfl rfl ?_
            go_big_quiet_step (fail)
            with_reducible refine wpQuiet_nil ?_
            refine M2.tree_q (k := 10) rfl rfl ?_
            go_big_quiet_step (fail)
            with_reducible refine wpQuiet_nil ?_
            refine M2.tree_e (k := 13) rfl ?_ ?_
            · go_wp2_with ((go_at_call 28; (with_reducible refine (HP.out _ (TabW.ch HT0.out (by repeat (first | with_reducible exact C.out | (focus (refine ChS.chg ?_; (repeat (first | with_reducible exact ChS.refl _ _ | with_reducible refine ChS.drewl ?_ | with_reducible refine ChS.drewr ?_ | with_reducible refine ChS.over ?_ _ | with_reducible refine chS_chgs ?_ _ | ((with_reducible refine chS_set ?_ _ ?_ _); rotate_left; (first | assumption | (focus (simp; done)) | (focus (simp; assumption)))) | with_reducible refine ChS.alloc ?_ _ | ((with_reducible refine ChS.lit ?_ ?_ _ _); rotate_left; (first | assumption | (focus (simp; done)) | (focus (simp; assumption)))) | with_reducible refine ChS.alloc ?_ _)); done)) | with_reducible refine Chg.alloc ?_ _ | with_reducible refine Chg.drew ?_ | with_reducible refine Chg.on ?_ _ | ((with_reducible refine Chg.setCell ?_ ?_ _); rotate_left; (first | (focus (left; assumption)) | (focus (left; simp; done)) | (focus (right; simp; done)) | (focus (right; simp; omega)) | (focus (left; simp; omega)))) | ((with_reducible refine Chg.in_ ?_ _ ?_); rotate_left; (first | assumption | (focus (intro i hi; left; simp at hi; subst hi; assumption)) | exact fun i hi => Or.inl hi | (focus (intro i hi; left; simp [hi]; done)) | (focus (intro i hi; left; simp at hi ⊢; simp [hi]; done)) | (focus (intro i hi; simp at hi ⊢; simp [hi]; done)) | (focus (intro i hi; simp at hi ⊢; omega)))))) h0F) (HS7.out _ (by repeat (first | with_reducible exact Chg.refl _ _ | (focus (refine ChS.chg ?_; (repeat (first | with_reducible exact ChS.refl _ _ | with_reducible refine ChS.drewl ?_ | with_reducible refine ChS.drewr ?_ | with_reducible refine ChS.over ?_ _ | with_reducible refine chS_chgs ?_ _ | ((with_reducible refine chS_set ?_ _ ?_ _); rotate_left; (first | assumption | (focus (simp; done)) | (focus (simp; assumption)))) | with_reducible refine ChS.alloc ?_ _ | ((with_reducible refine ChS.lit ?_ ?_ _ _); rotate_left; (first | assumption | (focus (simp; done)) | (focus (simp; assumption)))) | with_reducible refine ChS.alloc ?_ _)); done)) | with_reducible refine Chg.alloc ?_ _ | with_reducible refine Chg.drew ?_ | with_reducible refine Chg.on ?_ _ | ((with_reducible refine Chg.setCell ?_ ?_ _); rotate_left; (first | (focus (left; assumption)) | (focus (left; simp; done)) | (focus (right; simp; done)) | (focus (right; simp; omega)) | (focus (left; simp; omega)))) | ((with_reducible refine Chg.in_ ?_ _ ?_); rotate_left; (first | assumption | (focus (intro i hi; left; simp at hi; subst hi; assumption)) | exact fun i hi => Or.inl hi | (focus (intro i hi; left; simp [hi]; done)) | (focus (intro i hi; left; simp at hi ⊢; simp [hi]; done)) | (focus (intro i hi; simp at hi ⊢; simp [hi]; done)) | (focus (intro i hi; simp at hi ⊢; omega)))))))).mono ?_); rintro _ _ ⟨a7, c7, rfl, ⟨e7, rfl⟩, ho7⟩; have HO7 := hid ho7; clear ho7))
              refine M2.TreeQ.mk (by (try unfold Ov); repeat (first | with_reducible exact ex_over | with_reducible exact over_self _ | with_reducible refine ex_undrew ?_ | with_reducible refine ex_into ?_ _ | with_reducible refine ex_alloc ?_ _ | with_reducible refine ex_drew ?_ | ((with_reducible refine ex_setCell ?_ ?_ _); rotate_left; (first | omega | (focus (simp; done)) | (focus (simp; omega)))) | ((with_reducible refine ex_chg ?_ _ ?_); rotate_left; (first | assumption | (exact Hid.out (by assumption)))) | exact ex_over)) ?_
              refine M2.tree_e (k := 14) rfl ?_ ?_
              · go_wp2_with ((go_at_call 28; (with_reducible refine (HP.out _ (TabW.ch HT0.out (by repeat (first | with_reducible exact C.out | (focus (refine ChS.chg ?_; (repeat (first | with_reducible exact ChS.refl _ _ | with_reducible refine ChS.drewl ?_ | with_reducible refine ChS.drewr ?_ | with_reducible refine ChS.over ?_ _ | with_reducible refine chS_chgs ?_ _ | ((with_reducible refine chS_set ?_ _ ?_ _); rotate_left; (first | assumption | (focus (simp; done)) | (focus (simp; assumption)))) | with_reducible refine ChS.alloc ?_ _ | ((with_reducible refine ChS.lit ?_ ?_ _ _); rotate_left; (first | assumption | (focus (simp; done)) | (focus (simp; assumption)))) | with_reducible refine ChS.alloc ?_ _)); done)) | with_reducible refine Chg.alloc ?_ _ | with_reducible refine Chg.drew ?_ | with_reducible refine Chg.on ?_ _ | ((with_reducible refine Chg.setCell ?_ ?_ _); rotate_left; (first | (focus (left; assumption)) | (focus (left; simp; done)) | (focus (right; simp; done)) | (focus (right; simp; omega)) | (focus (left; simp; omega)))) | ((with_reducible refine Chg.in_ ?_ _ ?_); rotate_left; (first | assumption | (focus (intro i hi; left; simp at hi; subst hi; assumption)) | exact fun i hi => Or.inl hi | (focus (intro i hi; left; simp [hi]; done)) | (focus (intro i hi; left; simp at hi ⊢; simp [hi]; done)) | (focus (intro i hi; simp at hi ⊢; simp [hi]; done)) | (focus (intro i hi; simp at hi ⊢; omega)))))) h0F) (HS7.out _ (by repeat (first | with_reducible exact Chg.refl _ _ | (focus (refine ChS.chg ?_; (repeat (first | with_reducible exact ChS.refl _ _ | with_reducible refine ChS.drewl ?_ | with_reducible refine ChS.drewr ?_ | with_reducible refine ChS.over ?_ _ | with_reducible refine chS_chgs ?_ _ | ((with_reducible refine chS_set ?_ _ ?_ _); rotate_left; (first | assumption | (focus (simp; done)) | (focus (simp; assumption)))) | with_reducible refine ChS.alloc ?_ _ | ((with_reducible refine ChS.lit ?_ ?_ _ _); rotate_left; (first | assumption | (focus (simp; done)) | (focus (simp; assumption)))) | with_reducible refine ChS.alloc ?_ _)); done)) | with_reducible refine Chg.alloc ?_ _ | with_reducible refine Chg.drew ?_ | with_reducible refine Chg.on ?_ _ | ((with_reducible refine Chg.setCell ?_ ?_ _); rotate_left; (first | (focus (left; assumption)) | (focus (left; simp; done)) | (focus (right; simp; done)) | (focus (right; simp; omega)) | (focus (left; simp; omega)))) | ((with_reducible refine Chg.in_ ?_ _ ?_); rotate_left; (first | assumption | (focus (intro i hi; left; simp at hi; subst hi; assumption)) | exact fun i hi => Or.inl hi | (focus (intro i hi; left; simp [hi]; done)) | (focus (intro i hi; left; simp at hi ⊢; simp [hi]; done)) | (focus (intro i hi; simp at hi ⊢; simp [hi]; done)) | (focus (intro i hi; simp at hi ⊢; omega)))))))).mono ?_); rintro _ _ ⟨a7, c7, rfl, ⟨e7, rfl⟩, ho7⟩; have HO7 := hid ho7; clear ho7))
                refine M2.TreeQ.mk (by (try unfold Ov); repeat (first | with_reducible exact ex_over | with_reducible exact over_self _ | with_reducible refine ex_undrew ?_ | with_reducible refine ex_into ?_ _ | with_reducible refine ex_alloc ?_ _ | with_reducible refine ex_drew ?_ | ((with_reducible refine ex_setCell ?_ ?_ _); rotate_left; (first | omega | (focus (simp; done)) | (focus (simp; omega)))) | ((with_reducible refine ex_chg ?_ _ ?_); rotate_left; (first | assumption | (exact Hid.out (by assumption)))) | exact ex_over)) ?_
                refine M2.tree_q (k := 15) rfl rfl ?_
                go_big_quiet_step (fail)
                with_reducible refine wpQuiet_nil ?_
                refine M2.tree_done ?_
                refine gen_w ?_
                intro W7 hW7
                have C7 : Hid (Chg F W0 W7) := hid (by rw [hW7]; exact (by repeat (first | with_reducible exact C.out | (focus (refine ChS.chg ?_; (repeat (first | with_reducible exact ChS.refl _ _ | with_reducible refine ChS.drewl ?_ | with_reducible refine ChS.drewr ?_ | with_reducible refine ChS.over ?_ _ | with_reducible refine chS_chgs ?_ _ | ((with_reducible refine chS_set ?_ _ ?_ _); rotate_left; (first | assumption | (focus (simp; done)) | (focus (simp; assumption)))) | with_reducible refine ChS.alloc ?_ _ | ((with_reducible refine ChS.lit ?_ ?_ _ _); rotate_left; (first | assumption | (focus (simp; done)) | (focus (simp; assumption)))) | with_reducible refine ChS.alloc ?_ _)); done)) | with_reducible refine Chg.alloc ?_ _ | with_reducible refine Chg.drew ?_ | with_reducible refine Chg.on ?_ _ | ((with_reducible refine Chg.setCell ?_ ?_ _); rotate_left; (first | (focus (left; assumption)) | (focus (left; simp; done)) | (focus (right; simp; done)) | (focus (right; simp; omega)) | (focus (left; simp; omega)))) | ((with_reducible refine Chg.in_ ?_ _ ?_); rotate_left; (first | assumption | (focus (intro i hi; left; simp at hi; subst hi; assumption)) | exact fun i hi => Or.inl hi | (focus (intro i hi; left; simp [hi]; done)) | (focus (intro i hi; left; simp at hi ⊢; simp [hi]; done)) | (focus (intro i hi; simp at hi ⊢; simp [hi]; done)) | (focus (intro i hi; simp at hi ⊢; omega)))))))
                have D7 : Hid (Blk W7 p7 [.slice a3 (pack L).length c3, .int .i64 (L.length : Nat)] 29) := hid (by rw [hW7]; exact (by repeat (first | with_reducible exact HB7.out | with_reducible refine Blk.alloc ?_ _ | with_reducible refine Blk.drew ?_ | with_reducible refine Blk.on ?_ _ | ((with_reducible refine Blk.chg ?_ (chg_chg _ _ _) ?_); rotate_left; (first | assumption | (focus (simp; done)) | (focus (simp; omega)))) | with_reducible refine Blk.set ?_ _ _ | ((with_reducible refine Blk.set_ne ?_ ?_ _); rotate_left; (first | assumption | (focus (simp; done)) | (focus (simp; omega)))))))
                have D8 : Hid (Blk W7 p8 t.cs 42) := hid (by rw [hW7]; exact (by repeat (first | with_reducible exact HB8.out | with_reducible refine Blk.alloc ?_ _ | with_reducible refine Blk.drew ?_ | with_reducible refine Blk.on ?_ _ | ((with_reducible refine Blk.chg ?_ (chg_chg _ _ _) ?_); rotate_left; (first | assumption | (focus (simp; done)) | (focus (simp; omega)))) | with_reducible refine Blk.set ?_ _ _ | ((with_reducible refine Blk.set_ne ?_ ?_ _); rotate_left; (first | assumption | (focus (simp; done)) | (focus (simp; omega)))))))
                have D14 : Hid (Blk W7 p14 t.cs 42) := hid (by rw [hW7]; exact (by repeat (first | with_reducible exact HB14.out | with_reducible refine Blk.alloc ?_ _ | with_reducible refine Blk.drew ?_ | with_reducible refine Blk.on ?_ _ | ((with_reducible refine Blk.chg ?_ (chg_chg _ _ _) ?_); rotate_left; (first | assumption | (focus (simp; done)) | (focus (simp; omega)))) | with_reducible refine Blk.set ?_ _ _ | ((with_reducible refine Blk.set_ne ?_ ?_ _); rotate_left; (first | assumption | (focus (simp; done)) | (focus (simp; omega)))))))
                have D10 : Hid (Blk W7 p10 [.slice a5 (pack LA).length c5, .int .i64 (LA.length : Nat)] 29) := hid (by rw [hW7]; exact (by repeat (first | with_reducible exact HB10.out | with_reducible refine Blk.alloc ?_ _ | with_reducible refine Blk.drew ?_ | with_reducible refine Blk.on ?_ _ | ((with_reducible refine Blk.chg ?_ (chg_chg _ _ _) ?_); rotate_left; (first | assumption | (focus (simp; done)) | (focus (simp; omega)))) | with_reducible refine Blk.set ?_ _ _ | ((with_reducible refine Blk.set_ne ?_ ?_ _); rotate_left; (first | assumption | (focus (simp; done)) | (focus (simp; omega)))))))
                have N16 : Hid (Blk W7 (wr.heap.size) [.slice a7 (pack L').length c7, .int .i64 (L'.length : Nat)] 29) := hid (by rw [hW7]; exact (by repeat (first | exact Blk.new' (by simp; done) | exact Blk.new' rfl | with_reducible assumption | with_reducible refine Blk.alloc ?_ _ | with_reducible refine Blk.drew ?_ | with_reducible refine Blk.on ?_ _ | ((with_reducible refine Blk.chg ?_ (chg_chg _ _ _) ?_); rotate_left; (first | assumption | (focus (simp; done)) | (focus (simp; omega)))))))
                have N17 : Hid (Blk W7 (wr.heap.size + 1) t'.cs 42) := hid (by rw [hW7]; exact (by repeat (first | exact Blk.new' (by simp; done) | exact Blk.new' rfl | with_reducible assumption | with_reducible refine Blk.alloc ?_ _ | with_reducible refine Blk.drew ?_ | with_reducible refine Blk.on ?_ _ | ((with_reducible refine Blk.chg ?_ (chg_chg _ _ _) ?_); rotate_left; (first | assumption | (focus (simp; done)) | (focus (simp; omega)))))))
                have AB : Hid (OwnB wr.heap.size W7 (.slice a7 (pack L').length c7) (pack L')) := hid (by rw [hW7]; (repeat (first | with_reducible refine Own.alloc ?_ _ | with_reducible refine Own.drew ?_)); exact Own.mono (Own.over_swap HO7.out (by first | exact Nat.le_refl _ | rfl | omega | (simp; done) | (simp; omega)) (by first | exact Nat.le_refl _ | rfl | omega | (simp; done) | (simp; omega))) (by first | exact Nat.le_refl _ | rfl | omega | (simp; done) | (simp; omega)))
                have hwW : wr.heap.size ≤ W7.heap.size := by rw [hW7]; simp; try omega
                clear hW7
                obtain ⟨p16, hp16⟩ : ∃ p, p = (wr.heap.size) := ⟨_, rfl⟩
                obtain ⟨p17, hp17⟩ : ∃ p, p = (wr.heap.size + 1) := ⟨_, rfl⟩
                first
                  | (rw [← hp17] at N17 ⊢; rw [← hp16] at N16 ⊢)
                  | (rw [← hp16] at N16 ⊢; rw [← hp17] at N17 ⊢)
                have n167 : ¬ p16 = p7 := by omega
                have n168 : ¬ p16 = p8 := by omega
                have n1614 : ¬ p16 = p14 := by omega
                have n177 : ¬ p17 = p7 := by omega
                have n178 : ¬ p17 = p8 := by omega
                have n1714 : ¬ p17 = p14 := by omega
                clear hp16 hp17
                clear r70 r71 g70 g71 l7 r80 r81 r82 r83 r84 r85 r86 g80 g81 g82 g83 g84 g85 g86 l8 r140 r141 r142 r143 r144 r145 r146 g140 g141 g142 g143 g144 g145 g146 l14 r100 r101 l10
                clear kr0 kr1 hbr
                obtain ⟨b6', o6', hb6', hbr, kr0, kr1⟩ := SlM.at_ (HS2.out W7 C7.out) hlt
                cases hb6'
                rw [HX6.out] at kr0 kr1
                have r70 := D7.out.cell 0 rfl
                have r71 := D7.out.cell 1 rfl
                have g70 := D7.out.free 0
                have g71 := D7.out.free 1
                have l7 := D7.out.lt
                have r80 := D8.out.cell 0 rfl
                have r81 := D8.out.cell 1 rfl
                have r82 := D8.out.cell 2 rfl
                have r83 := D8.out.cell 3 rfl
                have r84 := D8.out.cell 4 rfl
                have r85 := D8.out.cell 5 rfl
                have r86 := D8.out.cell 6 rfl
                have g80 := D8.out.free 0
                have g81 := D8.out.free 1
                have g82 := D8.out.free 2
                have g83 := D8.out.free 3
                have g84 := D8.out.free 4
                have g85 := D8.out.free 5
                have g86 := D8.out.free 6
                have l8 := D8.out.lt
                have r140 := D14.out.cell 0 rfl
                have r141 := D14.out.cell 1 rfl
                have r142 := D14.out.cell 2 rfl
                have r143 := D14.out.cell 3 rfl
                have r144 := D14.out.cell 4 rfl
                have r145 := D14.out.cell 5 rfl
                have r146 := D14.out.cell 6 rfl
                have g140 := D14.out.free 0
                have g141 := D14.out.free 1
                have g142 := D14.out.free 2
                have g143 := D14.out.free 3
                have g144 := D14.out.free 4
                have g145 := D14.out.free 5
                have g146 := D14.out.free 6
                have l14 := D14.out.lt
                have r100 := D10.out.cell 0 rfl
                have r101 := D10.out.cell 1 rfl
                have l10 := D10.out.lt
                have r160 := N16.out.cell 0 rfl
                have r161 := N16.out.cell 1 rfl
                have l16 := N16.out.lt
                have r170 := N17.out.cell 0 rfl
                have r171 := N17.out.cell 1 rfl
                have r172 := N17.out.cell 2 rfl
                have r173 := N17.out.cell 3 rfl
                have r174 := N17.out.cell 4 rfl
                have r175 := N17.out.cell 5 rfl
                have r176 := N17.out.cell 6 rfl
                have l17 := N17.out.lt
                have m61 : ∀ x, b6 < W7.heap.size + x := fun x => by omega
                have m62 : ∀ x y, b6 < W7.heap.size + x + y := fun x y => by omega
                have m63 : ∀ x y z, b6 < W7.heap.size + x + y + z := fun x y z => by omega
                have m71 : ∀ x, p17 < W7.heap.size + x := fun x => by omega
                have m72 : ∀ x y, p17 < W7.heap.size + x + y := fun x y => by omega
                have m73 : ∀ x y z, p17 < W7.heap.size + x + y + z := fun x y z => by omega
                go_wp2_with (go_at_call 34; (with_reducible refine (HG'.out _ (TabW.ch HT0.out C7.out h0F) (HA.out _ C7.out)).mono ?_); rintro _ _ ⟨⟨e8, rfl⟩, rfl⟩)
                refine wp_region_over (by kernel_rfl) (by kernel_rfl) ?_
                repeat (go_big_quiet_step ((fail)))
                refine wpQuiet_nil ?_
                intro _ hw'
                obtain ⟨nq, rfl⟩ := hw'
                refine gen_w ?_
                intro W9 hW9
                have C9 : Hid (Chg F W0 W9) := hid (by rw [hW9]; exact (by repeat (first | with_reducible exact C7.out | (focus (refine ChS.chg ?_; (repeat (first | with_reducible exact ChS.refl _ _ | with_reducible refine ChS.drewl ?_ | with_reducible refine ChS.drewr ?_ | with_reducible refine ChS.over ?_ _ | with_reducible refine chS_chgs ?_ _ | ((with_reducible refine chS_set ?_ _ ?_ _); rotate_left; (first | assumption | (focus (simp; done)) | (focus (simp; assumption)))) | with_reducible refine ChS.alloc ?_ _ | ((with_reducible refine ChS.lit ?_ ?_ _ _); rotate_left; (first | assumption | (focus (simp; done)) | (focus (simp; assumption)))) | with_reducible refine ChS.alloc ?_ _)); done)) | with_reducible refine Chg.alloc ?_ _ | with_reducible refine Chg.drew ?_ | with_reducible refine Chg.on ?_ _ | ((with_reducible refine Chg.setCell ?_ ?_ _); rotate_left; (first | (focus (left; assumption)) | (focus (left; simp; done)) | (focus (right; simp; done)) | (focus (right; simp; omega)) | (focus (left; simp; omega)))) | ((with_reducible refine Chg.in_ ?_ _ ?_); rotate_left; (first | assumption | (focus (intro i hi; left; simp at hi; subst hi; assumption)) | exact fun i hi => Or.inl hi | (focus (intro i hi; left; simp [hi]; done)) | (focus (intro i hi; left; simp at hi ⊢; simp [hi]; done)) | (focus (intro i hi; simp at hi ⊢; simp [hi]; done)) | (focus (intro i hi; simp at hi ⊢; omega)))))))
                have E7 : Hid (Blk W9 p7 [.slice a3 (pack L).length c3, .int .i64 (L.length : Nat)] 29) := hid (by rw [hW9]; exact (by repeat (first | with_reducible exact D7.out | with_reducible refine Blk.alloc ?_ _ | with_reducible refine Blk.drew ?_ | with_reducible refine Blk.on ?_ _ | ((with_reducible refine Blk.chg ?_ (chg_chg _ _ _) ?_); rotate_left; (first | assumption | (focus (simp; done)) | (focus (simp; omega)))) | with_reducible refine Blk.set ?_ _ _ | ((with_reducible refine Blk.set_ne ?_ ?_ _); rotate_left; (first | assumption | (focus (simp; done)) | (focus (simp; omega)))))))
                have E8 : Hid (Blk W9 p8 t.cs 42) := hid (by rw [hW9]; exact (by repeat (first | with_reducible exact D8.out | with_reducible refine Blk.alloc ?_ _ | with_reducible refine Blk.drew ?_ | with_reducible refine Blk.on ?_ _ | ((with_reducible refine Blk.chg ?_ (chg_chg _ _ _) ?_); rotate_left; (first | assumption | (focus (simp; done)) | (focus (simp; omega)))) | with_reducible refine Blk.set ?_ _ _ | ((with_reducible refine Blk.set_ne ?_ ?_ _); rotate_left; (first | assumption | (focus (simp; done)) | (focus (simp; omega)))))))
                have E14 : Hid (Blk W9 p14 t.cs 42) := hid (by rw [hW9]; exact (by repeat (first | with_reducible exact D14.out | with_reducible refine Blk.alloc ?_ _ | with_reducible refine Blk.drew ?_ | with_reducible refine Blk.on ?_ _ | ((with_reducible refine Blk.chg ?_ (chg_chg _ _ _) ?_); rotate_left; (first | assumption | (focus (simp; done)) | (focus (simp; omega)))) | with_reducible refine Blk.set ?_ _ _ | ((with_reducible refine Blk.set_ne ?_ ?_ _); rotate_left; (first | assumption | (focus (simp; done)) | (focus (simp; omega)))))))
                have E10 : Hid (Blk W9 p10 [.slice a5 (pack LA).length c5, .int .i64 (LA.length : Nat)] 29) := hid (by rw [hW9]; exact (by repeat (first | with_reducible exact D10.out | with_reducible refine Blk.alloc ?_ _ | with_reducible refine Blk.drew ?_ | with_reducible refine Blk.on ?_ _ | ((with_reducible refine Blk.chg ?_ (chg_chg _ _ _) ?_); rotate_left; (first | assumption | (focus (simp; done)) | (focus (simp; omega)))) | with_reducible refine Blk.set ?_ _ _ | ((with_reducible refine Blk.set_ne ?_ ?_ _); rotate_left; (first | assumption | (focus (simp; done)) | (focus (simp; omega)))))))
                have E16 : Hid (Blk W9 p16 [.slice a7 (pack L').length c7, .int .i64 (L'.length : Nat)] 29) := hid (by rw [hW9]; exact (by repeat (first | with_reducible exact N16.out | with_reducible refine Blk.alloc ?_ _ | with_reducible refine Blk.drew ?_ | with_reducible refine Blk.on ?_ _ | ((with_reducible refine Blk.chg ?_ (chg_chg _ _ _) ?_); rotate_left; (first | assumption | (focus (simp; done)) | (focus (simp; omega)))) | with_reducible refine Blk.set ?_ _ _ | ((with_reducible refine Blk.set_ne ?_ ?_ _); rotate_left; (first | assumption | (focus (simp; done)) | (focus (simp; omega)))))))
                have E17 : Hid (Blk W9 p17 t'.cs 42) := hid (by rw [hW9]; exact (by repeat (first | with_reducible exact N17.out | with_reducible refine Blk.alloc ?_ _ | with_reducible refine Blk.drew ?_ | with_reducible refine Blk.on ?_ _ | ((with_reducible refine Blk.chg ?_ (chg_chg _ _ _) ?_); rotate_left; (first | assumption | (focus (simp; done)) | (focus (simp; omega)))) | with_reducible refine Blk.set ?_ _ _ | ((with_reducible refine Blk.set_ne ?_ ?_ _); rotate_left; (first | assumption | (focus (simp; done)) | (focus (simp; omega)))))))
                have E21 : Hid (Blk W9 (W7.heap.size + e8.heap.size + 1) t'.cs 42) := hid (by rw [hW9]; (repeat (first | with_reducible refine Blk.on ?_ _ | with_reducible refine Blk.drew ?_)); exact Blk.new' (by simp))
                have AB9 : Hid (OwnB wr.heap.size W9 (.slice a7 (pack L').length c7) (pack L')) := hid (by rw [hW9]; exact (by repeat (first | with_reducible exact AB.out | ((with_reducible refine Own.set_ne ?_ ?_ _); rotate_left; (first | assumption | (focus (simp; done)) | (focus (simp [Value.ownBlock]; done)) | (focus (simp [Value.ownBlock]; omega)))) | ((with_reducible refine Own.in_some ?_ _ ?_); rotate_left; (first | assumption | (focus (simp; done)) | (focus (simp; omega)))) | ((with_reducible refine Own.in_one ?_ _ ?_); rotate_left; (first | assumption | (focus (simp [Value.ownBlock]; done)) | (focus (simp [Value.ownBlock]; omega)))) | ((with_reducible refine Own.chg ?_ (chg_chg _ _ _) ?_); rotate_left; (first | assumption | (focus (simp; done)) | (focus (simp; omega)))) | with_reducible refine Own.over ?_ _ | with_reducible refine Own.alloc ?_ _ | with_reducible refine Own.drew ?_ | exact AB.out)))
                have hwW9 : W7.heap.size + e8.heap.size + 1 < W9.heap.size := E21.out.lt
                clear hW9
                obtain ⟨p21, hp21⟩ : ∃ p, p = W7.heap.size + e8.heap.size + 1 := ⟨_, rfl⟩
                rw [← hp21] at E21 ⊢
                have n217 : ¬ p21 = p7 := by omega
                have n218 : ¬ p21 = p8 := by omega
                have n2114 : ¬ p21 = p14 := by omega
                clear hp21
                clear r70 r71 g70 g71 l7 r80 r81 r82 r83 r84 r85 r86 g80 g81 g82 g83 g84 g85 g86 l8 r140 r141 r142 r143 r144 r145 r146 g140 g141 g142 g143 g144 g145 g146 l14 r100 r101 l10
                clear kr0 kr1 hbr m61 m62 m63 m71 m72 m73 r160 r161 l16 r170 r171 r172 r173 r174 r175 r176 l17
                have r70 := E7.out.cell 0 rfl
                have r71 := E7.out.cell 1 rfl
                have g70 := E7.out.free 0
                have g71 := E7.out.free 1
                have l7 := E7.out.lt
                have r80 := E8.out.cell 0 rfl
                have r81 := E8.out.cell 1 rfl
                have r82 := E8.out.cell 2 rfl
                have r83 := E8.out.cell 3 rfl
                have r84 := E8.out.cell 4 rfl
                have r85 := E8.out.cell 5 rfl
                have r86 := E8.out.cell 6 rfl
                have g80 := E8.out.free 0
                have g81 := E8.out.free 1
                have g82 := E8.out.free 2
                have g83 := E8.out.free 3
                have g84 := E8.out.free 4
                have g85 := E8.out.free 5
                have g86 := E8.out.free 6
                have l8 := E8.out.lt
                have r140 := E14.out.cell 0 rfl
                have r141 := E14.out.cell 1 rfl
                have r142 := E14.out.cell 2 rfl
                have r143 := E14.out.cell 3 rfl
                have r144 := E14.out.cell 4 rfl
                have r145 := E14.out.cell 5 rfl
                have r146 := E14.out.cell 6 rfl
                have g140 := E14.out.free 0
                have g141 := E14.out.free 1
                have g142 := E14.out.free 2
                have g143 := E14.out.free 3
                have g144 := E14.out.free 4
                have g145 := E14.out.free 5
                have g146 := E14.out.free 6
                have l14 := E14.out.lt
                have r100 := E10.out.cell 0 rfl
                have r101 := E10.out.cell 1 rfl
                have l10 := E10.out.lt
                have r160 := E16.out.cell 0 rfl
                have r161 := E16.out.cell 1 rfl
                have l16 := E16.out.lt
                have r170 := E17.out.cell 0 rfl
                have r171 := E17.out.cell 1 rfl
                have r172 := E17.out.cell 2 rfl
                have r173 := E17.out.cell 3 rfl
                have r174 := E17.out.cell 4 rfl
                have r175 := E17.out.cell 5 rfl
                have r176 := E17.out.cell 6 rfl
                have l17 := E17.out.lt
                have r210 := E21.out.cell 0 rfl
                have r211 := E21.out.cell 1 rfl
                have r212 := E21.out.cell 2 rfl
                have r213 := E21.out.cell 3 rfl
                have r214 := E21.out.cell 4 rfl
                have r215 := E21.out.cell 5 rfl
                have r216 := E21.out.cell 6 rfl
                have l21 := E21.out.lt
                go_wp2_with fail
                go_roundw
                case rel =>
                  refine ⟨k + 1, by omega, by go_num, by rw [HL'.out], ?_⟩
                  with_reducible refine go_next C9.out HL'.out HT'.out E7.out E8.out E14.out m7 m8 m14 n78 n714 n814 AB9.out hb4'.out
                case measure => simp [intOf]; omega
              exact M2.tree_no
            exact M2.tree_no
          exact M2.tree_no
        exact M2.tree_no
      refine M2.tree_e (k := 12) rfl ?_ ?_
      · go_wp2_with ((go_at_call 28; (with_reducible refine (HP.out _ (TabW.ch HT0.out (by repeat (first | with_reducible exact C.out | (focus (refine ChS.chg ?_; (repeat (first | with_reducible exact ChS.refl _ _ | with_reducible refine ChS.drewl ?_ | with_reducible refine ChS.drewr ?_ | with_reducible refine ChS.over ?_ _ | with_reducible refine chS_chgs ?_ _ | ((with_reducible refine chS_set ?_ _ ?_ _); rotate_left; (first | assumption | (focus (simp; done)) | (focus (simp; assumption)))) | with_reducible refine ChS.alloc ?_ _ | ((with_reducible refine ChS.lit ?_ ?_ _ _); rotate_left; (first | assumption | (focus (simp; done)) | (focus (simp; assumption)))) | with_reducible refine ChS.alloc ?_ _)); done)) | with_reducible refine Chg.alloc ?_ _ | with_reducible refine Chg.drew ?_ | with_reducible refine Chg.on ?_ _ | ((with_reducible refine Chg.setCell ?_ ?_ _); rotate_left; (first | (focus (left; assumption)) | (focus (left; simp; done)) | (focus (right; simp; done)) | (focus (right; simp; omega)) | (focus (left; simp; omega)))) | ((with_reducible refine Chg.in_ ?_ _ ?_); rotate_left; (first | assumption | (focus (intro i hi; left; simp at hi; subst hi; assumption)) | exact fun i hi => Or.inl hi | (focus (intro i hi; left; simp [hi]; done)) | (focus (intro i hi; left; simp at hi ⊢; simp [hi]; done)) | (focus (intro i hi; simp at hi ⊢; simp [hi]; done)) | (focus (intro i hi; simp at hi ⊢; omega)))))) h0F) (HS7.out _ (by repeat (first | with_reducible exact Chg.refl _ _ | (focus (refine ChS.chg ?_; (repeat (first | with_reducible exact ChS.refl _ _ | with_reducible refine ChS.drewl ?_ | with_reducible refine ChS.drewr ?_ | with_reducible refine ChS.over ?_ _ | with_reducible refine chS_chgs ?_ _ | ((with_reducible refine chS_set ?_ _ ?_ _); rotate_left; (first | assumption | (focus (simp; done)) | (focus (simp; assumption)))) | with_reducible refine ChS.alloc ?_ _ | ((with_reducible refine ChS.lit ?_ ?_ _ _); rotate_left; (first | assumption | (focus (simp; done)) | (focus (simp; assumption)))) | with_reducible refine ChS.alloc ?_ _)); done)) | with_reducible refine Chg.alloc ?_ _ | with_reducible refine Chg.drew ?_ | with_reducible refine Chg.on ?_ _ | ((with_reducible refine Chg.setCell ?_ ?_ _); rotate_left; (first | (focus (left; assumption)) | (focus (left; simp; done)) | (focus (right; simp; done)) | (focus (right; simp; omega)) | (focus (left; simp; omega)))) | ((with_reducible refine Chg.in_ ?_ _ ?_); rotate_left; (first | assumption | (focus (intro i hi; left; simp at hi; subst hi; assumption)) | exact fun i hi => Or.inl hi | (focus (intro i hi; left; simp [hi]; done)) | (focus (intro i hi; left; simp at hi ⊢; simp [hi]; done)) | (focus (intro i hi; simp at hi ⊢; simp [hi]; done)) | (focus (intro i hi; simp at hi ⊢; omega)))))))).mono ?_); rintro _ _ ⟨a7, c7, rfl, ⟨e7, rfl⟩, ho7⟩; have HO7 := hid ho7; clear ho7))
        refine M2.TreeQ.mk (by (try unfold Ov); repeat (first | with_reducible exact ex_over | with_reducible exact over_self _ | with_reducible refine ex_undrew ?_ | with_reducible refine ex_into ?_ _ | with_reducible refine ex_alloc ?_ _ | with_reducible refine ex_drew ?_ | ((with_reducible refine ex_setCell ?_ ?_ _); rotate_left; (first | omega | (focus (simp; done)) | (focus (simp; omega)))) | ((with_reducible refine ex_chg ?_ _ ?_); rotate_left; (first | assumption | (exact Hid.out (by assumption)))) | exact ex_over)) ?_
        refine M2.tree_e (k := 6) rfl ?_ ?_
        · go_wp2_with ((go_at_call 28; (with_reducible refine (HP.out _ (TabW.ch HT0.out (by repeat (first | with_reducible exact C.out | (focus (refine ChS.chg ?_; (repeat (first | with_reducible exact ChS.refl _ _ | with_reducible refine ChS.drewl ?_ | with_reducible refine ChS.drewr ?_ | with_reducible refine ChS.over ?_ _ | with_reducible refine chS_chgs ?_ _ | ((with_reducible refine chS_set ?_ _ ?_ _); rotate_left; (first | assumption | (focus (simp; done)) | (focus (simp; assumption)))) | with_reducible refine ChS.alloc ?_ _ | ((with_reducible refine ChS.lit ?_ ?_ _ _); rotate_left; (first | assumption | (focus (simp; done)) | (focus (simp; assumption)))) | with_reducible refine ChS.alloc ?_ _)); done)) | with_reducible refine Chg.alloc ?_ _ | with_reducible refine Chg.drew ?_ | with_reducible refine Chg.on ?_ _ | ((with_reducible refine Chg.setCell ?_ ?_ _); rotate_left; (first | (focus (left; assumption)) | (focus (left; simp; done)) | (focus (right; simp; done)) | (focus (right; simp; omega)) | (focus (left; simp; omega)))) | ((with_reducible refine Chg.in_ ?_ _ ?_); rotate_left; (first | assumption | (focus (intro i hi; left; simp at hi; subst hi; assumption)) | exact fun i hi => Or.inl hi | (focus (intro i hi; left; simp [hi]; done)) | (focus (intro i hi; left; simp at hi ⊢; simp [hi]; done)) | (focus (intro i hi; simp at hi ⊢; simp [hi]; done)) | (focus (intro i hi; simp at hi ⊢; omega)))))) h0F) (HS7.out _ (by repeat (first | with_reducible exact Chg.refl _ _ | (focus (refine ChS.chg ?_; (repeat (first | with_reducible exact ChS.refl _ _ | with_reducible refine ChS.drewl ?_ | with_reducible refine ChS.drewr ?_ | with_reducible refine ChS.over ?_ _ | with_reducible refine chS_chgs ?_ _ | ((with_reducible refine chS_set ?_ _ ?_ _); rotate_left; (first | assumption | (focus (simp; done)) | (focus (simp; assumption)))) | with_reducible refine ChS.alloc ?_ _ | ((with_reducible refine ChS.lit ?_ ?_ _ _); rotate_left; (first | assumption | (focus (simp; done)) | (focus (simp; assumption)))) | with_reducible refine ChS.alloc ?_ _)); done)) | with_reducible refine Chg.alloc ?_ _ | with_reducible refine Chg.drew ?_ | with_reducible refine Chg.on ?_ _ | ((with_reducible refine Chg.setCell ?_ ?_ _); rotate_left; (first | (focus (left; assumption)) | (focus (left; simp; done)) | (focus (right; simp; done)) | (focus (right; simp; omega)) | (focus (left; simp; omega)))) | ((with_reducible refine Chg.in_ ?_ _ ?_); rotate_left; (first | assumption | (focus (intro i hi; left; simp at hi; subst hi; assumption)) | exact fun i hi => Or.inl hi | (focus (intro i hi; left; simp [hi]; done)) | (focus (intro i hi; left; simp at hi ⊢; simp [hi]; done)) | (focus (intro i hi; simp at hi ⊢; simp [hi]; done)) | (focus (intro i hi; simp at hi ⊢; omega)))))))).mono ?_); rintro _ _ ⟨a7, c7, rfl, ⟨e7, rfl⟩, ho7⟩; have HO7 := hid ho7; clear ho7))
          refine M2.TreeQ.mk (by (try unfold Ov); repeat (first | with_reducible exact ex_over | with_reducible exact over_self _ | with_reducible refine ex_undrew ?_ | with_reducible refine ex_into ?_ _ | with_reducible refine ex_alloc ?_ _ | with_reducible refine ex_drew ?_ | ((with_reducible refine ex_setCell ?_ ?_ _); rotate_left; (first | omega | (focus (simp; done)) | (focus (simp; omega)))) | ((with_reducible refine ex_chg ?_ _ ?_); rotate_left; (first | assumption | (exact Hid.out (by assumption)))) | exact ex_over)) ?_
          refine M2.tree_q (k := 7) rfl rfl ?_
          go_big_quiet_step (fail)
          with_reducible refine wpQuiet_nil ?_
          refine M2.tree_q (k := 8) rfl rfl ?_
          go_big_quiet_step (fail)
          with_reducible refine wpQuiet_nil ?_
          refine M2.tree_q (k := 9) rfl rfl ?_
          go_big_quiet_step (fail)
          with_reducible refine wpQuiet_nil ?_
          refine M2.tree_q (k := 10) rfl rfl ?_
          go_big_quiet_step (fail)
          with_reducible refine wpQuiet_nil ?_
          refine M2.tree_e (k := 11) rfl ?_ ?_
          · go_wp2_with ((go_at_call 28; (with_reducible refine (HP.out _ (TabW.ch HT0.out (by repeat (first | with_reducible exact C.out | (focus (refine ChS.chg ?_; (repeat (first | with_reducible exact ChS.refl _ _ | with_reducible refine ChS.drewl ?_ | with_reducible refine ChS.drewr ?_ | with_reducible refine ChS.over ?_ _ | with_reducible refine chS_chgs ?_ _ | ((with_reducible refine chS_set ?_ _ ?_ _); rotate_left; (first | assumption | (focus (simp; done)) | (focus (simp; assumption)))) | with_reducible refine ChS.alloc ?_ _ | ((with_reducible refine ChS.lit ?_ ?_ _ _); rotate_left; (first | assumption | (focus (simp; done)) | (focus (simp; assumption)))) | with_reducible refine ChS.alloc ?_ _)); done)) | with_reducible refine Chg.alloc ?_ _ | with_reducible refine Chg.drew ?_ | with_reducible refine Chg.on ?_ _ | ((with_reducible refine Chg.setCell ?_ ?_ _); rotate_left; (first | (focus (left; assumption)) | (focus (left; simp; done)) | (focus (right; simp; done)) | (focus (right; simp; omega)) | (focus (left; simp; omega)))) | ((with_reducible refine Chg.in_ ?_ _ ?_); rotate_left; (first | assumption | (focus (intro i hi; left; simp at hi; subst hi; assumption)) | exact fun i hi => Or.inl hi | (focus (intro i hi; left; simp [hi]; done)) | (focus (intro i hi; left; simp at hi ⊢; simp [hi]; done)) | (focus (intro i hi; simp at hi ⊢; simp [hi]; done)) | (focus (intro i hi; simp at hi ⊢; omega)))))) h0F) (HS7.out _ (by repeat (first | with_reducible exact Chg.refl _ _ | (focus (refine ChS.chg ?_; (repeat (first | with_reducible exact ChS.refl _ _ | with_reducible refine ChS.drewl ?_ | with_reducible refine ChS.drewr ?_ | with_reducible refine ChS.over ?_ _ | with_reducible refine chS_chgs ?_ _ | ((with_reducible refine chS_set ?_ _ ?_ _); rotate_left; (first | assumption | (focus (simp; done)) | (focus (simp; assumption)))) | with_reducible refine ChS.alloc ?_ _ | ((with_reducible refine ChS.lit ?_ ?_ _ _); rotate_left; (first | assumption | (focus (simp; done)) | (focus (simp; assumption)))) | with_reducible refine ChS.alloc ?_ _)); done)) | with_reducible refine Chg.alloc ?_ _ | with_reducible refine Chg.drew ?_ | with_reducible refine Chg.on ?_ _ | ((with_reducible refine Chg.setCell ?_ ?_ _); rotate_left; (first | (focus (left; assumption)) | (focus (left; simp; done)) | (focus (right; simp; done)) | (focus (right; simp; omega)) | (focus (left; simp; omega)))) | ((with_reducible refine Chg.in_ ?_ _ ?_); rotate_left; (first | assumption | (focus (intro i hi; left; simp at hi; subst hi; assumption)) | exact fun i hi => Or.inl hi | (focus (intro i hi; left; simp [hi]; done)) | (focus (intro i hi; left; simp at hi ⊢; simp [hi]; done)) | (focus (intro i hi; simp at hi ⊢; simp [hi]; done)) | (focus (intro i hi; simp at hi ⊢; omega)))))))).mono ?_); rintro _ _ ⟨a7, c7, rfl, ⟨e7, rfl⟩, ho7⟩; have HO7 := hid ho7; clear ho7))
            refine M2.TreeQ.mk (by (try unfold Ov); repeat (first | with_reducible exact ex_over | with_reducible exact over_self _ | with_reducible refine ex_undrew ?_ | with_reducible refine ex_into ?_ _ | with_reducible refine ex_alloc ?_ _ | with_reducible refine ex_drew ?_ | ((with_reducible refine ex_setCell ?_ ?_ _); rotate_left; (first | omega | (focus (simp; done)) | (focus (simp; omega)))) | ((with_reducible refine ex_chg ?_ _ ?_); rotate_left; (first | assumption | (exact Hid.out (by assumption)))) | exact ex_over)) ?_
            refine M2.tree_e (k := 13) rfl ?_ ?_
            · go_wp2_with ((go_at_call 28; (with_reducible refine (HP.out _ (TabW.ch HT0.out (by repeat (first | with_reducible exact C.out | (focus (refine ChS.chg ?_; (repeat (first | with_reducible exact ChS.refl _ _ | with_reducible refine ChS.drewl ?_ | with_reducible refine ChS.drewr ?_ | with_reducible refine ChS.over ?_ _ | with_reducible refine chS_chgs ?_ _ | ((with_reducible refine chS_set ?_ _ ?_ _); rotate_left; (first | assumption | (focus (simp; done)) | (focus (simp; assumption)))) | with_reducible refine ChS.alloc ?_ _ | ((with_reducible refine ChS.lit ?_ ?_ _ _); rotate_left; (first | assumption | (focus (simp; done)) | (focus (simp; assumption)))) | with_reducible refine ChS.alloc ?_ _)); done)) | with_reducible refine Chg.alloc ?_ _ | with_reducible refine Chg.drew ?_ | with_reducible refine Chg.on ?_ _ | ((with_reducible refine Chg.setCell ?_ ?_ _); rotate_left; (first | (focus (left; assumption)) | (focus (left; simp; done)) | (focus (right; simp; done)) | (focus (right; simp; omega)) | (focus (left; simp; omega)))) | ((with_reducible refine Chg.in_ ?_ _ ?_); rotate_left; (first | assumption | (focus (intro i hi; left; simp at hi; subst hi; assumption)) | exact fun i hi => Or.inl hi | (focus (intro i hi; left; simp [hi]; done)) | (focus (intro i hi; left; simp at hi ⊢; simp [hi]; done)) | (focus (intro i hi; simp at hi ⊢; simp [hi]; done)) | (focus (intro i hi; simp at hi ⊢; omega)))))) h0F) (HS7.out _ (by repeat (first | with_reducible exact Chg.refl _ _ | (focus (refine ChS.chg ?_; (repeat (first | with_reducible exact ChS.refl _ _ | with_reducible refine ChS.drewl ?_ | with_reducible refine ChS.drewr ?_ | with_reducible refine ChS.over ?_ _ | with_reducible refine chS_chgs ?_ _ | ((with_reducible refine chS_set ?_ _ ?_ _); rotate_left; (first | assumption | (focus (simp; done)) | (focus (simp; assumption)))) | with_reducible refine ChS.alloc ?_ _ | ((with_reducible refine ChS.lit ?_ ?_ _ _); rotate_left; (first | assumption | (focus (simp; done)) | (focus (simp; assumption)))) | with_reducible refine ChS.alloc ?_ _)); done)) | with_reducible refine Chg.alloc ?_ _ | with_reducible refine Chg.drew ?_ | with_reducible refine Chg.on ?_ _ | ((with_reducible refine Chg.setCell ?_ ?_ _); rotate_left; (first | (focus (left; assumption)) | (focus (left; simp; done)) | (focus (right; simp; done)) | (focus (right; simp; omega)) | (focus (left; simp; omega)))) | ((with_reducible refine Chg.in_ ?_ _ ?_); rotate_left; (first | assumption | (focus (intro i hi; left; simp at hi; subst hi; assumption)) | exact fun i hi => Or.inl hi | (focus (intro i hi; left; simp [hi]; done)) | (focus (intro i hi; left; simp at hi ⊢; simp [hi]; done)) | (focus (intro i hi; simp at hi ⊢; simp [hi]; done)) | (focus (intro i hi; simp at hi ⊢; omega)))))))).mono ?_); rintro _ _ ⟨a7, c7, rfl, ⟨e7, rfl⟩, ho7⟩; have HO7 := hid ho7; clear ho7))
              refine M2.TreeQ.mk (by (try unfold Ov); repeat (first | with_reducible exact ex_over | with_reducible exact over_self _ | with_reducible refine ex_undrew ?_ | with_reducible refine ex_into ?_ _ | with_reducible refine ex_alloc ?_ _ | with_reducible refine ex_drew ?_ | ((with_reducible refine ex_setCell ?_ ?_ _); rotate_left; (first | omega | (focus (simp; done)) | (focus (simp; omega)))) | ((with_reducible refine ex_chg ?_ _ ?_); rotate_left; (first | assumption | (exact Hid.out (by assumption)))) | exact ex_over)) ?_
              refine M2.tree_e (k := 14) rfl ?_ ?_
              · go_wp2_with ((go_at_call 28; (with_reducible refine (HP.out _ (TabW.ch HT0.out (by repeat (first | with_reducible exact C.out | (focus (refine ChS.chg ?_; (repeat (first | with_reducible exact ChS.refl _ _ | with_reducible refine ChS.drewl ?_ | with_reducible refine ChS.drewr ?_ | with_reducible refine ChS.over ?_ _ | with_reducible refine chS_chgs ?_ _ | ((with_reducible refine chS_set ?_ _ ?_ _); rotate_left; (first | assumption | (focus (simp; done)) | (focus (simp; assumption)))) | with_reducible refine ChS.alloc ?_ _ | ((with_reducible refine ChS.lit ?_ ?_ _ _); rotate_left; (first | assumption | (focus (simp; done)) | (focus (simp; assumption)))) | with_reducible refine ChS.alloc ?_ _)); done)) | with_reducible refine Chg.alloc ?_ _ | with_reducible refine Chg.drew ?_ | with_reducible refine Chg.on ?_ _ | ((with_reducible refine Chg.setCell ?_ ?_ _); rotate_left; (first | (focus (left; assumption)) | (focus (left; simp; done)) | (focus (right; simp; done)) | (focus (right; simp; omega)) | (focus (left; simp; omega)))) | ((with_reducible refine Chg.in_ ?_ _ ?_); rotate_left; (first | assumption | (focus (intro i hi; left; simp at hi; subst hi; assumption)) | exact fun i hi => Or.inl hi | (focus (intro i hi; left; simp [hi]; done)) | (focus (intro i hi; left; simp at hi ⊢; simp [hi]; done)) | (focus (intro i hi; simp at hi ⊢; simp [hi]; done)) | (focus (intro i hi; simp at hi ⊢; omega)))))) h0F) (HS7.out _ (by repeat (first | with_reducible exact Chg.refl _ _ | (focus (refine ChS.chg ?_; (repeat (first | with_reducible exact ChS.refl _ _ | with_reducible refine ChS.drewl ?_ | with_reducible refine ChS.drewr ?_ | with_reducible refine ChS.over ?_ _ | with_reducible refine chS_chgs ?_ _ | ((with_reducible refine chS_set ?_ _ ?_ _); rotate_left; (first | assumption | (focus (simp; done)) | (focus (simp; assumption)))) | with_reducible refine ChS.alloc ?_ _ | ((with_reducible refine ChS.lit ?_ ?_ _ _); rotate_left; (first | assumption | (focus (simp; done)) | (focus (simp; assumption)))) | with_reducible refine ChS.alloc ?_ _)); done)) | with_reducible refine Chg.alloc ?_ _ | with_reducible refine Chg.drew ?_ | with_reducible refine Chg.on ?_ _ | ((with_reducible refine Chg.setCell ?_ ?_ _); rotate_left; (first | (focus (left; assumption)) | (focus (left; simp; done)) | (focus (right; simp; done)) | (focus (right; simp; omega)) | (focus (left; simp; omega)))) | ((with_reducible refine Chg.in_ ?_ _ ?_); rotate_left; (first | assumption | (focus (intro i hi; left; simp at hi; subst hi; assumption)) | exact fun i hi => Or.inl hi | (focus (intro i hi; left; simp [hi]; done)) | (focus (intro i hi; left; simp at hi ⊢; simp [hi]; done)) | (focus (intro i hi; simp at hi ⊢; simp [hi]; done)) | (focus (intro i hi; simp at hi ⊢; omega)))))))).mono ?_); rintro _ _ ⟨a7, c7, rfl, ⟨e7, rfl⟩, ho7⟩; have HO7 := hid ho7; clear ho7))
                refine M2.TreeQ.mk (by (try unfold Ov); repeat (first | with_reducible exact ex_over | with_reducible exact over_self _ | with_reducible refine ex_undrew ?_ | with_reducible refine ex_into ?_ _ | with_reducible refine ex_alloc ?_ _ | with_reducible refine ex_drew ?_ | ((with_reducible refine ex_setCell ?_ ?_ _); rotate_left; (first | omega | (focus (simp; done)) | (focus (simp; omega)))) | ((with_reducible refine ex_chg ?_ _ ?_); rotate_left; (first | assumption | (exact Hid.out (by assumption)))) | exact ex_over)) ?_
                refine M2.tree_q (k := 15) rfl rfl ?_
                go_big_quiet_step (fail)
                with_reducible refine wpQuiet_nil ?_
                refine M2.tree_done ?_
                refine gen_w ?_
                intro W7 hW7
                have C7 : Hid (Chg F W0 W7) := hid (by rw [hW7]; exact (by repeat (first | with_reducible exact C.out | (focus (refine ChS.chg ?_; (repeat (first | with_reducible exact ChS.refl _ _ | with_reducible refine ChS.drewl ?_ | with_reducible refine ChS.drewr ?_ | with_reducible refine ChS.over ?_ _ | with_reducible refine chS_chgs ?_ _ | ((with_reducible refine chS_set ?_ _ ?_ _); rotate_left; (first | assumption | (focus (simp; done)) | (focus (simp; assumption)))) | with_reducible refine ChS.alloc ?_ _ | ((with_reducible refine ChS.lit ?_ ?_ _ _); rotate_left; (first | assumption | (focus (simp; done)) | (focus (simp; assumption)))) | with_reducible refine ChS.alloc ?_ _)); done)) | with_reducible refine Chg.alloc ?_ _ | with_reducible refine Chg.drew ?_ | with_reducible refine Chg.on ?_ _ | ((with_reducible refine Chg.setCell ?_ ?_ _); rotate_left; (first | (focus (left; assumption)) | (focus (left; simp; done)) | (focus (right; simp; done)) | (focus (right; simp; omega)) | (focus (left; simp; omega)))) | ((with_reducible refine Chg.in_ ?_ _ ?_); rotate_left; (first | assumption | (focus (intro i hi; left; simp at hi; subst hi; assumption)) | exact fun i hi => Or.inl hi | (focus (intro i hi; left; simp [hi]; done)) | (focus (intro i hi; left; simp at hi ⊢; simp [hi]; done)) | (focus (intro i hi; simp at hi ⊢; simp [hi]; done)) | (focus (intro i hi; simp at hi ⊢; omega)))))))
                have D7 : Hid (Blk W7 p7 [.slice a3 (pack L).length c3, .int .i64 (L.length : Nat)] 29) := hid (by rw [hW7]; exact (by repeat (first | with_reducible exact HB7.out | with_reducible refine Blk.alloc ?_ _ | with_reducible refine Blk.drew ?_ | with_reducible refine Blk.on ?_ _ | ((with_reducible refine Blk.chg ?_ (chg_chg _ _ _) ?_); rotate_left; (first | assumption | (focus (simp; done)) | (focus (simp; omega)))) | with_reducible refine Blk.set ?_ _ _ | ((with_reducible refine Blk.set_ne ?_ ?_ _); rotate_left; (first | assumption | (focus (simp; done)) | (focus (simp; omega)))))))
                have D8 : Hid (Blk W7 p8 t.cs 42) := hid (by rw [hW7]; exact (by repeat (first | with_reducible exact HB8.out | with_reducible refine Blk.alloc ?_ _ | with_reducible refine Blk.drew ?_ | with_reducible refine Blk.on ?_ _ | ((with_reducible refine Blk.chg ?_ (chg_chg _ _ _) ?_); rotate_left; (first | assumption | (focus (simp; done)) | (focus (simp; omega)))) | with_reducible refine Blk.set ?_ _ _ | ((with_reducible refine Blk.set_ne ?_ ?_ _); rotate_left; (first | assumption | (focus (simp; done)) | (focus (simp; omega)))))))
                have D14 : Hid (Blk W7 p14 t.cs 42) := hid (by rw [hW7]; exact (by repeat (first | with_reducible exact HB14.out | with_reducible refine Blk.alloc ?_ _ | with_reducible refine Blk.drew ?_ | with_reducible refine Blk.on ?_ _ | ((with_reducible refine Blk.chg ?_ (chg_chg _ _ _) ?_); rotate_left; (first | assumption | (focus (simp; done)) | (focus (simp; omega)))) | with_reducible refine Blk.set ?_ _ _ | ((with_reducible refine Blk.set_ne ?_ ?_ _); rotate_left; (first | assumption | (focus (simp; done)) | (focus (simp; omega)))))))
                have D10 : Hid (Blk W7 p10 [.slice a5 (pack LA).length c5, .int .i64 (LA.length : Nat)] 29) := hid (by rw [hW7]; exact (by repeat (first | with_reducible exact HB10.out | with_reducible refine Blk.alloc ?_ _ | with_reducible refine Blk.drew ?_ | with_reducible refine Blk.on ?_ _ | ((with_reducible refine Blk.chg ?_ (chg_chg _ _ _) ?_); rotate_left; (first | assumption | (focus (simp; done)) | (focus (simp; omega)))) | with_reducible refine Blk.set ?_ _ _ | ((with_reducible refine Blk.set_ne ?_ ?_ _); rotate_left; (first | assumption | (focus (simp; done)) | (focus (simp; omega)))))))
                have N16 : Hid (Blk W7 (wr.heap.size + 1 + e7.heap.size) [.slice a7 (pack L').length c7, .int .i64 (L'.length : Nat)] 29) := hid (by rw [hW7]; exact (by repeat (first | exact Blk.new' (by simp; done) | exact Blk.new' rfl | with_reducible assumption | with_reducible refine Blk.alloc ?_ _ | with_reducible refine Blk.drew ?_ | with_reducible refine Blk.on ?_ _ | ((with_reducible refine Blk.chg ?_ (chg_chg _ _ _) ?_); rotate_left; (first | assumption | (focus (simp; done)) | (focus (simp; omega)))))))
                have N17 : Hid (Blk W7 (wr.heap.size) t'.cs 42) := hid (by rw [hW7]; exact (by repeat (first | exact Blk.new' (by simp; done) | exact Blk.new' rfl | with_reducible assumption | with_reducible refine Blk.alloc ?_ _ | with_reducible refine Blk.drew ?_ | with_reducible refine Blk.on ?_ _ | ((with_reducible refine Blk.chg ?_ (chg_chg _ _ _) ?_); rotate_left; (first | assumption | (focus (simp; done)) | (focus (simp; omega)))))))
                have AB : Hid (OwnB wr.heap.size W7 (.slice a7 (pack L').length c7) (pack L')) := hid (by rw [hW7]; (repeat (first | with_reducible refine Own.alloc ?_ _ | with_reducible refine Own.drew ?_)); exact Own.mono (Own.over_swap HO7.out (by first | exact Nat.le_refl _ | rfl | omega | (simp; done) | (simp; omega)) (by first | exact Nat.le_refl _ | rfl | omega | (simp; done) | (simp; omega))) (by first | exact Nat.le_refl _ | rfl | omega | (simp; done) | (simp; omega)))
                have hwW : wr.heap.size ≤ W7.heap.size := by rw [hW7]; simp; try omega
                clear hW7
                obtain ⟨p16, hp16⟩ : ∃ p, p = (wr.heap.size + 1 + e7.heap.size) := ⟨_, rfl⟩
                obtain ⟨p17, hp17⟩ : ∃ p, p = (wr.heap.size) := ⟨_, rfl⟩
                first
                  | (rw [← hp17] at N17 ⊢; rw [← hp16] at N16 ⊢)
                  | (rw [← hp16] at N16 ⊢; rw [← hp17] at N17 ⊢)
                have n167 : ¬ p16 = p7 := by omega
                have n168 : ¬ p16 = p8 := by omega
                have n1614 : ¬ p16 = p14 := by omega
                have n177 : ¬ p17 = p7 := by omega
                have n178 : ¬ p17 = p8 := by omega
                have n1714 : ¬ p17 = p14 := by omega
                clear hp16 hp17
                clear r70 r71 g70 g71 l7 r80 r81 r82 r83 r84 r85 r86 g80 g81 g82 g83 g84 g85 g86 l8 r140 r141 r142 r143 r144 r145 r146 g140 g141 g142 g143 g144 g145 g146 l14 r100 r101 l10
                clear kr0 kr1 hbr
                obtain ⟨b6', o6', hb6', hbr, kr0, kr1⟩ := SlM.at_ (HS2.out W7 C7.out) hlt
                cases hb6'
                rw [HX6.out] at kr0 kr1
                have r70 := D7.out.cell 0 rfl
                have r71 := D7.out.cell 1 rfl
                have g70 := D7.out.free 0
                have g71 := D7.out.free 1
                have l7 := D7.out.lt
                have r80 := D8.out.cell 0 rfl
                have r81 := D8.out.cell 1 rfl
                have r82 := D8.out.cell 2 rfl
                have r83 := D8.out.cell 3 rfl
                have r84 := D8.out.cell 4 rfl
                have r85 := D8.out.cell 5 rfl
                have r86 := D8.out.cell 6 rfl
                have g80 := D8.out.free 0
                have g81 := D8.out.free 1
                have g82 := D8.out.free 2
                have g83 := D8.out.free 3
                have g84 := D8.out.free 4
                have g85 := D8.out.free 5
                have g86 := D8.out.free 6
                have l8 := D8.out.lt
                have r140 := D14.out.cell 0 rfl
                have r141 := D14.out.cell 1 rfl
                have r142 := D14.out.cell 2 rfl
                have r143 := D14.out.cell 3 rfl
                have r144 := D14.out.cell 4 rfl
                have r145 := D14.out.cell 5 rfl
                have r146 := D14.out.cell 6 rfl
                have g140 := D14.out.free 0
                have g141 := D14.out.free 1
                have g142 := D14.out.free 2
                have g143 := D14.out.free 3
                have g144 := D14.out.free 4
                have g145 := D14.out.free 5
                have g146 := D14.out.free 6
                have l14 := D14.out.lt
                have r100 := D10.out.cell 0 rfl
                have r101 := D10.out.cell 1 rfl
                have l10 := D10.out.lt
                have r160 := N16.out.cell 0 rfl
                have r161 := N16.out.cell 1 rfl
                have l16 := N16.out.lt
                have r170 := N17.out.cell 0 rfl
                have r171 := N17.out.cell 1 rfl
                have r172 := N17.out.cell 2 rfl
                have r173 := N17.out.cell 3 rfl
                have r174 := N17.out.cell 4 rfl
                have r175 := N17.out.cell 5 rfl
                have r176 := N17.out.cell 6 rfl
                have l17 := N17.out.lt
                have m61 : ∀ x, b6 < W7.heap.size + x := fun x => by omega
                have m62 : ∀ x y, b6 < W7.heap.size + x + y := fun x y => by omega
                have m63 : ∀ x y z, b6 < W7.heap.size + x + y + z := fun x y z => by omega
                have m71 : ∀ x, p17 < W7.heap.size + x := fun x => by omega
                have m72 : ∀ x y, p17 < W7.heap.size + x + y := fun x y => by omega
                have m73 : ∀ x y z, p17 < W7.heap.size + x + y + z := fun x y z => by omega
                go_wp2_with (go_at_call 34; (with_reducible refine (HG'.out _ (TabW.ch HT0.out C7.out h0F) (HA.out _ C7.out)).mono ?_); rintro _ _ ⟨⟨e8, rfl⟩, rfl⟩)
                refine wp_region_over (by kernel_rfl) (by kernel_rfl) ?_
                repeat (go_big_quiet_step ((fail)))
                refine wpQuiet_nil ?_
                intro _ hw'
                obtain ⟨nq, rfl⟩ := hw'
                refine gen_w ?_
                intro W9 hW9
                have C9 : Hid (Chg F W0 W9) := hid (by rw [hW9]; exact (by repeat (first | with_reducible exact C7.out | (focus (refine ChS.chg ?_; (repeat (first | with_reducible exact ChS.refl _ _ | with_reducible refine ChS.drewl ?_ | with_reducible refine ChS.drewr ?_ | with_reducible refine ChS.over ?_ _ | with_reducible refine chS_chgs ?_ _ | ((with_reducible refine chS_set ?_ _ ?_ _); rotate_left; (first | assumption | (focus (simp; done)) | (focus (simp; assumption)))) | with_reducible refine ChS.alloc ?_ _ | ((with_reducible refine ChS.lit ?_ ?_ _ _); rotate_left; (first | assumption | (focus (simp; done)) | (focus (simp; assumption)))) | with_reducible refine ChS.alloc ?_ _)); done)) | with_reducible refine Chg.alloc ?_ _ | with_reducible refine Chg.drew ?_ | with_reducible refine Chg.on ?_ _ | ((with_reducible refine Chg.setCell ?_ ?_ _); rotate_left; (first | (focus (left; assumption)) | (focus (left; simp; done)) | (focus (right; simp; done)) | (focus (right; simp; omega)) | (focus (left; simp; omega)))) | ((with_reducible refine Chg.in_ ?_ _ ?_); rotate_left; (first | assumption | (focus (intro i hi; left; simp at hi; subst hi; assumption)) | exact fun i hi => Or.inl hi | (focus (intro i hi; left; simp [hi]; done)) | (focus (intro i hi; left; simp at hi ⊢; simp [hi]; done)) | (focus (intro i hi; simp at hi ⊢; simp [hi]; done)) | (focus (intro i hi; simp at hi ⊢; omega)))))))
                have E7 : Hid (Blk W9 p7 [.slice a3 (pack L).length c3, .int .i64 (L.length : Nat)] 29) := hid (by rw [hW9]; exact (by repeat (first | with_reducible exact D7.out | with_reducible refine Blk.alloc ?_ _ | with_reducible refine Blk.drew ?_ | with_reducible refine Blk.on ?_ _ | ((with_reducible refine Blk.chg ?_ (chg_chg _ _ _) ?_); rotate_left; (first | assumption | (focus (simp; done)) | (focus (simp; omega)))) | with_reducible refine Blk.set ?_ _ _ | ((with_reducible refine Blk.set_ne ?_ ?_ _); rotate_left; (first | assumption | (focus (simp; done)) | (focus (simp; omega)))))))
                have E8 : Hid (Blk W9 p8 t.cs 42) := hid (by rw [hW9]; exact (by repeat (first | with_reducible exact D8.out | with_reducible refine Blk.alloc ?_ _ | with_reducible refine Blk.drew ?_ | with_reducible refine Blk.on ?_ _ | ((with_reducible refine Blk.chg ?_ (chg_chg _ _ _) ?_); rotate_left; (first | assumption | (focus (simp; done)) | (focus (simp; omega)))) | with_reducible refine Blk.set ?_ _ _ | ((with_reducible refine Blk.set_ne ?_ ?_ _); rotate_left; (first | assumption | (focus (simp; done)) | (focus (simp; omega)))))))
                have E14 : Hid (Blk W9 p14 t.cs 42) := hid (by rw [hW9]; exact (by repeat (first | with_reducible exact D14.out | with_reducible refine Blk.alloc ?_ _ | with_reducible refine Blk.drew ?_ | with_reducible refine Blk.on ?_ _ | ((with_reducible refine Blk.chg ?_ (chg_chg _ _ _) ?_); rotate_left; (first | assumption | (focus (simp; done)) | (focus (simp; omega)))) | with_reducible refine Blk.set ?_ _ _ | ((with_reducible refine Blk.set_ne ?_ ?_ _); rotate_left; (first | assumption | (focus (simp; done)) | (focus (simp; omega)))))))
                have E10 : Hid (Blk W9 p10 [.slice a5 (pack LA).length c5, .int .i64 (LA.length : Nat)] 29) := hid (by rw [hW9]; exact (by repeat (first | with_reducible exact D10.out | with_reducible refine Blk.alloc ?_ _ | with_reducible refine Blk.drew ?_ | with_reducible refine Blk.on ?_ _ | ((with_reducible refine Blk.chg ?_ (chg_chg _ _ _) ?_); rotate_left; (first | assumption | (focus (simp; done)) | (focus (simp; omega)))) | with_reducible refine Blk.set ?_ _ _ | ((with_reducible refine Blk.set_ne ?_ ?_ _); rotate_left; (first | assumption | (focus (simp; done)) | (focus (simp; omega)))))))
                have E16 : Hid (Blk W9 p16 [.slice a7 (pack L').length c7, .int .i64 (L'.length : Nat)] 29) := hid (by rw [hW9]; exact (by repeat (first | with_reducible exact N16.out | with_reducible refine Blk.alloc ?_ _ | with_reducible refine Blk.drew ?_ | with_reducible refine Blk.on ?_ _ | ((with_reducible refine Blk.chg ?_ (chg_chg _ _ _) ?_); rotate_left; (first | assumption | (focus (simp; done)) | (focus (simp; omega)))) | with_reducible refine Blk.set ?_ _ _ | ((with_reducible refine Blk.set_ne ?_ ?_ _); rotate_left; (first | assumption | (focus (simp; done)) | (focus (simp; omega)))))))
                have E17 : Hid (Blk W9 p17 t'.cs 42) := hid (by rw [hW9]; exact (by repeat (first | with_reducible exact N17.out | with_reducible refine Blk.alloc ?_ _ | with_reducible refine Blk.drew ?_ | with_reducible refine Blk.on ?_ _ | ((with_reducible refine Blk.chg ?_ (chg_chg _ _ _) ?_); rotate_left; (first | assumption | (focus (simp; done)) | (focus (simp; omega)))) | with_reducible refine Blk.set ?_ _ _ | ((with_reducible refine Blk.set_ne ?_ ?_ _); rotate_left; (first | assumption | (focus (simp; done)) | (focus (simp; omega)))))))
                have E21 : Hid (Blk W9 (W7.heap.size + e8.heap.size + 1) t'.cs 42) := hid (by rw [hW9]; (repeat (first | with_reducible refine Blk.on ?_ _ | with_reducible refine Blk.drew ?_)); exact Blk.new' (by simp))
                have AB9 : Hid (OwnB wr.heap.size W9 (.slice a7 (pack L').length c7) (pack L')) := hid (by rw [hW9]; exact (by repeat (first | with_reducible exact AB.out | ((with_reducible refine Own.set_ne ?_ ?_ _); rotate_left; (first | assumption | (focus (simp; done)) | (focus (simp [Value.ownBlock]; done)) | (focus (simp [Value.ownBlock]; omega)))) | ((with_reducible refine Own.in_some ?_ _ ?_); rotate_left; (first | assumption | (focus (simp; done)) | (focus (simp; omega)))) | ((with_reducible refine Own.in_one ?_ _ ?_); rotate_left; (first | assumption | (focus (simp [Value.ownBlock]; done)) | (focus (simp [Value.ownBlock]; omega)))) | ((with_reducible refine Own.chg ?_ (chg_chg _ _ _) ?_); rotate_left; (first | assumption | (focus (simp; done)) | (focus (simp; omega)))) | with_reducible refine Own.over ?_ _ | with_reducible refine Own.alloc ?_ _ | with_reducible refine Own.drew ?_ | exact AB.out)))
                have hwW9 : W7.heap.size + e8.heap.size + 1 < W9.heap.size := E21.out.lt
                clear hW9
                obtain ⟨p21, hp21⟩ : ∃ p, p = W7.heap.size + e8.heap.size + 1 := ⟨_, rfl⟩
                rw [← hp21] at E21 ⊢
                have n217 : ¬ p21 = p7 := by omega
                have n218 : ¬ p21 = p8 := by omega
                have n2114 : ¬ p21 = p14 := by omega
                clear hp21
                clear r70 r71 g70 g71 l7 r80 r81 r82 r83 r84 r85 r86 g80 g81 g82 g83 g84 g85 g86 l8 r140 r141 r142 r143 r144 r145 r146 g140 g141 g142 g143 g144 g145 g146 l14 r100 r101 l10
                clear kr0 kr1 hbr m61 m62 m63 m71 m72 m73 r160 r161 l16 r170 r171 r172 r173 r174 r175 r176 l17
                have r70 := E7.out.cell 0 rfl
                have r71 := E7.out.cell 1 rfl
                have g70 := E7.out.free 0
                have g71 := E7.out.free 1
                have l7 := E7.out.lt
                have r80 := E8.out.cell 0 rfl
                have r81 := E8.out.cell 1 rfl
                have r82 := E8.out.cell 2 rfl
                have r83 := E8.out.cell 3 rfl
                have r84 := E8.out.cell 4 rfl
                have r85 := E8.out.cell 5 rfl
                have r86 := E8.out.cell 6 rfl
                have g80 := E8.out.free 0
                have g81 := E8.out.free 1
                have g82 := E8.out.free 2
                have g83 := E8.out.free 3
                have g84 := E8.out.free 4
                have g85 := E8.out.free 5
                have g86 := E8.out.free 6
                have l8 := E8.out.lt
                have r140 := E14.out.cell 0 rfl
                have r141 := E14.out.cell 1 rfl
                have r142 := E14.out.cell 2 rfl
                have r143 := E14.out.cell 3 rfl
                have r144 := E14.out.cell 4 rfl
                have r145 := E14.out.cell 5 rfl
                have r146 := E14.out.cell 6 rfl
                have g140 := E14.out.free 0
                have g141 := E14.out.free 1
                have g142 := E14.out.free 2
                have g143 := E14.out.free 3
                have g144 := E14.out.free 4
                have g145 := E14.out.free 5
                have g146 := E14.out.free 6
                have l14 := E14.out.lt
                have r100 := E10.out.cell 0 rfl
                have r101 := E10.out.cell 1 rfl
                have l10 := E10.out.lt
                have r160 := E16.out.cell 0 rfl
                have r161 := E16.out.cell 1 rfl
                have l16 := E16.out.lt
                have r170 := E17.out.cell 0 rfl
                have r171 := E17.out.cell 1 rfl
                have r172 := E17.out.cell 2 rfl
                have r173 := E17.out.cell 3 rfl
                have r174 := E17.out.cell 4 rfl
                have r175 := E17.out.cell 5 rfl
                have r176 := E17.out.cell 6 rfl
                have l17 := E17.out.lt
                have r210 := E21.out.cell 0 rfl
                have r211 := E21.out.cell 1 rfl
                have r212 := E21.out.cell 2 rfl
                have r213 := E21.out.cell 3 rfl
                have r214 := E21.out.cell 4 rfl
                have r215 := E21.out.cell 5 rfl
                have r216 := E21.out.cell 6 rfl
                have l21 := E21.out.lt
                go_wp2_with fail
                go_roundw
                case rel =>
                  refine ⟨k + 1, by omega, by go_num, by rw [HL'.out], ?_⟩
                  with_reducible refine go_next C9.out HL'.out HT'.out E7.out E8.out E14.out m7 m8 m14 n78 n714 n814 AB9.out hb4'.out
                case measure => simp [intOf]; omega
              exact M2.tree_no
            exact M2.tree_no
          exact M2.tree_no
        refine M2.tree_e (k := 11) rfl ?_ ?_
        · go_wp2_with ((go_at_call 28; (with_reducible refine (HP.out _ (TabW.ch HT0.out (by repeat (first | with_reducible exact C.out | (focus (refine ChS.chg ?_; (repeat (first | with_reducible exact ChS.refl _ _ | with_reducible refine ChS.drewl ?_ | with_reducible refine ChS.drewr ?_ | with_reducible refine ChS.over ?_ _ | with_reducible refine chS_chgs ?_ _ | ((with_reducible refine chS_set ?_ _ ?_ _); rotate_left; (first | assumption | (focus (simp; done)) | (focus (simp; assumption)))) | with_reducible refine ChS.alloc ?_ _ | ((with_reducible refine ChS.lit ?_ ?_ _ _); rotate_left; (first | assumption | (focus (simp; done)) | (focus (simp; assumption)))) | with_reducible refine ChS.alloc ?_ _)); done)) | with_reducible refine Chg.alloc ?_ _ | with_reducible refine Chg.drew ?_ | with_reducible refine Chg.on ?_ _ | ((with_reducible refine Chg.setCell ?_ ?_ _); rotate_left; (first | (focus (left; assumption)) | (focus (left; simp; done)) | (focus (right; simp; done)) | (focus (right; simp; omega)) | (focus (left; simp; omega)))) | ((with_reducible refine Chg.in_ ?_ _ ?_); rotate_left; (first | assumption | (focus (intro i hi; left; simp at hi; subst hi; assumption)) | exact fun i hi => Or.inl hi | (focus (intro i hi; left; simp [hi]; done)) | (focus (intro i hi; left; simp at hi ⊢; simp [hi]; done)) | (focus (intro i hi; simp at hi ⊢; simp [hi]; done)) | (focus (intro i hi; simp at hi ⊢; omega)))))) h0F) (HS7.out _ (by repeat (first | with_reducible exact Chg.refl _ _ | (focus (refine ChS.chg ?_; (repeat (first | with_reducible exact ChS.refl _ _ | with_reducible refine ChS.drewl ?_ | with_reducible refine ChS.drewr ?_ | with_reducible refine ChS.over ?_ _ | with_reducible refine chS_chgs ?_ _ | ((with_reducible refine chS_set ?_ _ ?_ _); rotate_left; (first | assumption | (focus (simp; done)) | (focus (simp; assumption)))) | with_reducible refine ChS.alloc ?_ _ | ((with_reducible refine ChS.lit ?_ ?_ _ _); rotate_left; (first | assumption | (focus (simp; done)) | (focus (simp; assumption)))) | with_reducible refine ChS.alloc ?_ _)); done)) | with_reducible refine Chg.alloc ?_ _ | with_reducible refine Chg.drew ?_ | with_reducible refine Chg.on ?_ _ | ((with_reducible refine Chg.setCell ?_ ?_ _); rotate_left; (first | (focus (left; assumption)) | (focus (left; simp; done)) | (focus (right; simp; done)) | (focus (right; simp; omega)) | (focus (left; simp; omega)))) | ((with_reducible refine Chg.in_ ?_ _ ?_); rotate_left; (first | assumption | (focus (intro i hi; left; simp at hi; subst hi; assumption)) | exact fun i hi => Or.inl hi | (focus (intro i hi; left; simp [hi]; done)) | (focus (intro i hi; left; simp at hi ⊢; simp [hi]; done)) | (focus (intro i hi; simp at hi ⊢; simp [hi]; done)) | (focus (intro i hi; simp at hi ⊢; omega)))))))).mono ?_); rintro _ _ ⟨a7, c7, rfl, ⟨e7, rfl⟩, ho7⟩; have HO7 := hid ho7; clear ho7))
          refine M2.TreeQ.mk (by (try unfold Ov); repeat (first | with_reducible exact ex_over | with_reducible exact over_self _ | with_reducible refine ex_undrew ?_ | with_reducible refine ex_into ?_ _ | with_reducible refine ex_alloc ?_ _ | with_reducible refine ex_drew ?_ | ((with_reducible refine ex_setCell ?_ ?_ _); rotate_left; (first | omega | (focus (simp; done)) | (focus (simp; omega)))) | ((with_reducible refine ex_chg ?_ _ ?_); rotate_left; (first | assumption | (exact Hid.out (by assumption)))) | exact ex_over)) ?_
          refine M2.tree_e (k := 6) rfl ?_ ?_
          · go_wp2_with ((go_at_call 28; (with_reducible refine (HP.out _ (TabW.ch HT0.out (by repeat (first | with_reducible exact C.out | (focus (refine ChS.chg ?_; (repeat (first | with_reducible exact ChS.refl _ _ | with_reducible refine ChS.drewl ?_ | with_reducible refine ChS.drewr ?_ | with_reducible refine ChS.over ?_ _ | with_reducible refine chS_chgs ?_ _ | ((with_reducible refine chS_set ?_ _ ?_ _); rotate_left; (first | assumption | (focus (simp; done)) | (focus (simp; assumption)))) | with_reducible refine ChS.alloc ?_ _ | ((with_reducible refine ChS.lit ?_ ?_ _ _); rotate_left; (first | assumption | (focus (simp; done)) | (focus (simp; assumption)))) | with_reducible refine ChS.alloc ?_ _)); done)) | with_reducible refine Chg.alloc ?_ _ | with_reducible refine Chg.drew ?_ | with_reducible refine Chg.on ?_ _ | ((with_reducible refine Chg.setCell ?_ ?_ _); rotate_left; (first | (focus (left; assumption)) | (focus (left; simp; done)) | (focus (right; simp; done)) | (focus (right; simp; omega)) | (focus (left; simp; omega)))) | ((with_reducible refine Chg.in_ ?_ _ ?_); rotate_left; (first | assumption | (focus (intro i hi; left; simp at hi; subst hi; assumption)) | exact fun i hi => Or.inl hi | (focus (intro i hi; left; simp [hi]; done)) | (focus (intro i hi; left; simp at hi ⊢; simp [hi]; done)) | (focus (intro i hi; simp at hi ⊢; simp [hi]; done)) | (focus (intro i hi; simp at hi ⊢; omega)))))) h0F) (HS7.out _ (by repeat (first | with_reducible exact Chg.refl _ _ | (focus (refine ChS.chg ?_; (repeat (first | with_reducible exact ChS.refl _ _ | with_reducible refine ChS.drewl ?_ | with_reducible refine ChS.drewr ?_ | with_reducible refine ChS.over ?_ _ | with_reducible refine chS_chgs ?_ _ | ((with_reducible refine chS_set ?_ _ ?_ _); rotate_left; (first | assumption | (focus (simp; done)) | (focus (simp; assumption)))) | with_reducible refine ChS.alloc ?_ _ | ((with_reducible refine ChS.lit ?_ ?_ _ _); rotate_left; (first | assumption | (focus (simp; done)) | (focus (simp; assumption)))) | with_reducible refine ChS.alloc ?_ _)); done)) | with_reducible refine Chg.alloc ?_ _ | with_reducible refine Chg.drew ?_ | with_reducible refine Chg.on ?_ _ | ((with_reducible refine Chg.setCell ?_ ?_ _); rotate_left; (first | (focus (left; assumption)) | (focus (left; simp; done)) | (focus (right; simp; done)) | (focus (right; simp; omega)) | (focus (left; simp; omega)))) | ((with_reducible refine Chg.in_ ?_ _ ?_); rotate_left; (first | assumption | (focus (intro i hi; left; simp at hi; subst hi; assumption)) | exact fun i hi => Or.inl hi | (focus (intro i hi; left; simp [hi]; done)) | (focus (intro i hi; left; simp at hi ⊢; simp [hi]; done)) | (focus (intro i hi; simp at hi ⊢; simp [hi]; done)) | (focus (intro i hi; simp at hi ⊢; omega)))))))).mono ?_); rintro _ _ ⟨a7, c7, rfl, ⟨e7, rfl⟩, ho7⟩; have HO7 := hid ho7; clear ho7))
            refine M2.TreeQ.mk (by (try unfold Ov); repeat (first | with_reducible exact ex_over | with_reducible exact over_self _ | with_reducible refine ex_undrew ?_ | with_reducible refine ex_into ?_ _ | with_reducible refine ex_alloc ?_ _ | with_reducible refine ex_drew ?_ | ((with_reducible refine ex_setCell ?_ ?_ _); rotate_left; (first | omega | (focus (simp; done)) | (focus (simp; omega)))) | ((with_reducible refine ex_chg ?_ _ ?_); rotate_left; (first | assumption | (exact Hid.out (by assumption)))) | exact ex_over)) ?_
            refine M2.tree_q (k := 7) rfl rfl ?_
            go_big_quiet_step (fail)
            with_reducible refine wpQuiet_nil ?_
            refine M2.tree_q (k := 8) rfl rfl ?_
            go_big_quiet_step (fail)
            with_reducible refine wpQuiet_nil ?_
            refine M2.tree_q (k := 9) rfl rfl ?_
            go_big_quiet_step (fail)
            with_reducible refine wpQuiet_nil ?_
            refine M2.tree_q (k := 10) rfl rfl ?_
            go_big_quiet_step (fail)
            with_reducible refine wpQuiet_nil ?_
            refine M2.tree_e (k := 13) rfl ?_ ?_
            · go_wp2_with ((go_at_call 28; (with_reducible refine (HP.out _ (TabW.ch HT0.out (by repeat (first | with_reducible exact C.out | (focus (refine ChS.chg ?_; (repeat (first | with_reducible exact ChS.refl _ _ | with_reducible refine ChS.drewl ?_ | with_reducible refine ChS.drewr ?_ | with_reducible refine ChS.over ?_ _ | with_reducible refine chS_chgs ?_ _ | ((with_reducible refine chS_set ?_ _ ?_ _); rotate_left; (first | assumption | (focus (simp; done)) | (focus (simp; assumption)))) | with_reducible refine ChS.alloc ?_ _ | ((with_reducible refine ChS.lit ?_ ?_ _ _); rotate_left; (first | assumption | (focus (simp; done)) | (focus (simp; assumption)))) | with_reducible refine ChS.alloc ?_ _)); done)) | with_reducible refine Chg.alloc ?_ _ | with_reducible refine Chg.drew ?_ | with_reducible refine Chg.on ?_ _ | ((with_reducible refine Chg.setCell ?_ ?_ _); rotate_left; (first | (focus (left; assumption)) | (focus (left; simp; done)) | (focus (right; simp; done)) | (focus (right; simp; omega)) | (focus (left; simp; omega)))) | ((with_reducible refine Chg.in_ ?_ _ ?_); rotate_left; (first | assumption | (focus (intro i hi; left; simp at hi; subst hi; assumption)) | exact fun i hi => Or.inl hi | (focus (intro i hi; left; simp [hi]; done)) | (focus (intro i hi; left; simp at hi ⊢; simp [hi]; done)) | (focus (intro i hi; simp at hi ⊢; simp [hi]; done)) | (focus (intro i hi; simp at hi ⊢; omega)))))) h0F) (HS7.out _ (by repeat (first | with_reducible exact Chg.refl _ _ | (focus (refine ChS.chg ?_; (repeat (first | with_reducible exact ChS.refl _ _ | with_reducible refine ChS.drewl ?_ | with_reducible refine ChS.drewr ?_ | with_reducible refine ChS.over ?_ _ | with_reducible refine chS_chgs ?_ _ | ((with_reducible refine chS_set ?_ _ ?_ _); rotate_left; (first | assumption | (focus (simp; done)) | (focus (simp; assumption)))) | with_reducible refine ChS.alloc ?_ _ | ((with_reducible refine ChS.lit ?_ ?_ _ _); rotate_left; (first | assumption | (focus (simp; done)) | (focus (simp; assumption)))) | with_reducible refine ChS.alloc ?_ _)); done)) | with_reducible refine Chg.alloc ?_ _ | with_reducible refine Chg.drew ?_ | with_reducible refine Chg.on ?_ _ | ((with_reducible refine Chg.setCell ?_ ?_ _); rotate_left; (first | (focus (left; assumption)) | (focus (left; simp; done)) | (focus (right; simp; done)) | (focus (right; simp; omega)) | (focus (left; simp; omega)))) | ((with_reducible refine Chg.in_ ?_ _ ?_); rotate_left; (first | assumption | (focus (intro i hi; left; simp at hi; subst hi; assumption)) | exact fun i hi => Or.inl hi | (focus (intro i hi; left; simp [hi]; done)) | (focus (intro i hi; left; simp at hi ⊢; simp [hi]; done)) | (focus (intro i hi; simp at hi ⊢; simp [hi]; done)) | (focus (intro i hi; simp at hi ⊢; omega)))))))).mono ?_); rintro _ _ ⟨a7, c7, rfl, ⟨e7, rfl⟩, ho7⟩; have HO7 := hid ho7; clear ho7))
              refine M2.TreeQ.mk (by (try unfold Ov); repeat (first | with_reducible exact ex_over | with_reducible exact over_self _ | with_reducible refine ex_undrew ?_ | with_reducible refine ex_into ?_ _ | with_reducible refine ex_alloc ?_ _ | with_reducible refine ex_drew ?_ | ((with_reducible refine ex_setCell ?_ ?_ _); rotate_left; (first | omega | (focus (simp; done)) | (focus (simp; omega)))) | ((with_reducible refine ex_chg ?_ _ ?_); rotate_left; (first | assumption | (exact Hid.out (by assumption)))) | exact ex_over)) ?_
              refine M2.tree_e (k := 14) rfl ?_ ?_
              · go_wp2_with ((go_at_call 28; (with_reducible refine (HP.out _ (TabW.ch HT0.out (by repeat (first | with_reducible exact C.out | (focus (refine ChS.chg ?_; (repeat (first | with_reducible exact ChS.refl _ _ | with_reducible refine ChS.drewl ?_ | with_reducible refine ChS.drewr ?_ | with_reducible refine ChS.over ?_ _ | with_reducible refine chS_chgs ?_ _ | ((with_reducible refine chS_set ?_ _ ?_ _); rotate_left; (first | assumption | (focus (simp; done)) | (focus (simp; assumption)))) | with_reducible refine ChS.alloc ?_ _ | ((with_reducible refine ChS.lit ?_ ?_ _ _); rotate_left; (first | assumption | (focus (simp; done)) | (focus (simp; assumption)))) | with_reducible refine ChS.alloc ?_ _)); done)) | with_reducible refine Chg.alloc ?_ _ | with_reducible refine Chg.drew ?_ | with_reducible refine Chg.on ?_ _ | ((with_reducible refine Chg.setCell ?_ ?_ _); rotate_left; (first | (focus (left; assumption)) | (focus (left; simp; done)) | (focus (right; simp; done)) | (focus (right; simp; omega)) | (focus (left; simp; omega)))) | ((with_reducible refine Chg.in_ ?_ _ ?_); rotate_left; (first | assumption | (focus (intro i hi; left; simp at hi; subst hi; assumption)) | exact fun i hi => Or.inl hi | (focus (intro i hi; left; simp [hi]; done)) | (focus (intro i hi; left; simp at hi ⊢; simp [hi]; done)) | (focus (intro i hi; simp at hi ⊢; simp [hi]; done)) | (focus (intro i hi; simp at hi ⊢; omega)))))) h0F) (HS7.out _ (by repeat (first | with_reducible exact Chg.refl _ _ | (focus (refine ChS.chg ?_; (repeat (first | with_reducible exact ChS.refl _ _ | with_reducible refine ChS.drewl ?_ | with_reducible refine ChS.drewr ?_ | with_reducible refine ChS.over ?_ _ | with_reducible refine chS_chgs ?_ _ | ((with_reducible refine chS_set ?_ _ ?_ _); rotate_left; (first | assumption | (focus (simp; done)) | (focus (simp; assumption)))) | with_reducible refine ChS.alloc ?_ _ | ((with_reducible refine ChS.lit ?_ ?_ _ _); rotate_left; (first | assumption | (focus (simp; done)) | (focus (simp; assumption)))) | with_reducible refine ChS.alloc ?_ _)); done)) | with_reducible refine Chg.alloc ?_ _ | with_reducible refine Chg.drew ?_ | with_reducible refine Chg.on ?_ _ | ((with_reducible refine Chg.setCell ?_ ?_ _); rotate_left; (first | (focus (left; assumption)) | (focus (left; simp; done)) | (focus (right; simp; done)) | (focus (right; simp; omega)) | (focus (left; simp; omega)))) | ((with_reducible refine Chg.in_ ?_ _ ?_); rotate_left; (first | assumption | (focus (intro i hi; left; simp at hi; subst hi; assumption)) | exact fun i hi => Or.inl hi | (focus (intro i hi; left; simp [hi]; done)) | (focus (intro i hi; left; simp at hi ⊢; simp [hi]; done)) | (focus (intro i hi; simp at hi ⊢; simp [hi]; done)) | (focus (intro i hi; simp at hi ⊢; omega)))))))).mono ?_); rintro _ _ ⟨a7, c7, rfl, ⟨e7, rfl⟩, ho7⟩; have HO7 := hid ho7; clear ho7))
                refine M2.TreeQ.mk (by (try unfold Ov); repeat (first | with_reducible exact ex_over | with_reducible exact over_self _ | with_reducible refine ex_undrew ?_ | with_reducible refine ex_into ?_ _ | with_reducible refine ex_alloc ?_ _ | with_reducible refine ex_drew ?_ | ((with_reducible refine ex_setCell ?_ ?_ _); rotate_left; (first | omega | (focus (simp; done)) | (focus (simp; omega)))) | ((with_reducible refine ex_chg ?_ _ ?_); rotate_left; (first | assumption | (exact Hid.out (by assumption)))) | exact ex_over)) ?_
                refine M2.tree_q (k := 15) rfl rfl ?_
                go_big_quiet_step (fail)
                with_reducible refine wpQuiet_nil ?_
                refine M2.tree_done ?_
                refine gen_w ?_
                intro W7 hW7
                have C7 : Hid (Chg F W0 W7) := hid (by rw [hW7]; exact (by repeat (first | with_reducible exact C.out | (focus (refine ChS.chg ?_; (repeat (first | with_reducible exact ChS.refl _ _ | with_reducible refine ChS.drewl ?_ | with_reducible refine ChS.drewr ?_ | with_reducible refine ChS.over ?_ _ | with_reducible refine chS_chgs ?_ _ | ((with_reducible refine chS_set ?_ _ ?_ _); rotate_left; (first | assumption | (focus (simp; done)) | (focus (simp; assumption)))) | with_reducible refine ChS.alloc ?_ _ | ((with_reducible refine ChS.lit ?_ ?_ _ _); rotate_left; (first | assumption | (focus (simp; done)) | (focus (simp; assumption)))) | with_reducible refine ChS.alloc ?_ _)); done)) | with_reducible refine Chg.alloc ?_ _ | with_reducible refine Chg.drew ?_ | with_reducible refine Chg.on ?_ _ | ((with_reducible refine Chg.setCell ?_ ?_ _); rotate_left; (first | (focus (left; assumption)) | (focus (left; simp; done)) | (focus (right; simp; done)) | (focus (right; simp; omega)) | (focus (left; simp; omega)))) | ((with_reducible refine Chg.in_ ?_ _ ?_); rotate_left; (first | assumption | (focus (intro i hi; left; simp at hi; subst hi; assumption)) | exact fun i hi => Or.inl hi | (focus (intro i hi; left; simp [hi]; done)) | (focus (intro i hi; left; simp at hi ⊢; simp [hi]; done)) | (focus (intro i hi; simp at hi ⊢; simp [hi]; done)) | (focus (intro i hi; simp at hi ⊢; omega)))))))
                have D7 : Hid (Blk W7 p7 [.slice a3 (pack L).length c3, .int .i64 (L.length : Nat)] 29) := hid (by rw [hW7]; exact (by repeat (first | with_reducible exact HB7.out | with_reducible refine Blk.alloc ?_ _ | with_reducible refine Blk.drew ?_ | with_reducible refine Blk.on ?_ _ | ((with_reducible refine Blk.chg ?_ (chg_chg _ _ _) ?_); rotate_left; (first | assumption | (focus (simp; done)) | (focus (simp; omega)))) | with_reducible refine Blk.set ?_ _ _ | ((with_reducible refine Blk.set_ne ?_ ?_ _); rotate_left; (first | assumption | (focus (simp; done)) | (focus (simp; omega)))))))
                have D8 : Hid (Blk W7 p8 t.cs 42) := hid (by rw [hW7]; exact (by repeat (first | with_reducible exact HB8.out | with_reducible refine Blk.alloc ?_ _ | with_reducible refine Blk.drew ?_ | with_reducible refine Blk.on ?_ _ | ((with_reducible refine Blk.chg ?_ (chg_chg _ _ _) ?_); rotate_left; (first | assumption | (focus (simp; done)) | (focus (simp; omega)))) | with_reducible refine Blk.set ?_ _ _ | ((with_reducible refine Blk.set_ne ?_ ?_ _); rotate_left; (first | assumption | (focus (simp; done)) | (focus (simp; omega)))))))
                have D14 : Hid (Blk W7 p14 t.cs 42) := hid (by rw [hW7]; exact (by repeat (first | with_reducible exact HB14.out | with_reducible refine Blk.alloc ?_ _ | with_reducible refine Blk.drew ?_ | with_reducible refine Blk.on ?_ _ | ((with_reducible refine Blk.chg ?_ (chg_chg _ _ _) ?_); rotate_left; (first | assumption | (focus (simp; done)) | (focus (simp; omega)))) | with_reducible refine Blk.set ?_ _ _ | ((with_reducible refine Blk.set_ne ?_ ?_ _); rotate_left; (first | assumption | (focus (simp; done)) | (focus (simp; omega)))))))
                have D10 : Hid (Blk W7 p10 [.slice a5 (pack LA).length c5, .int .i64 (LA.length : Nat)] 29) := hid (by rw [hW7]; exact (by repeat (first | with_reducible exact HB10.out | with_reducible refine Blk.alloc ?_ _ | with_reducible refine Blk.drew ?_ | with_reducible refine Blk.on ?_ _ | ((with_reducible refine Blk.chg ?_ (chg_chg _ _ _) ?_); rotate_left; (first | assumption | (focus (simp; done)) | (focus (simp; omega)))) | with_reducible refine Blk.set ?_ _ _ | ((with_reducible refine Blk.set_ne ?_ ?_ _); rotate_left; (first | assumption | (focus (simp; done)) | (focus (simp; omega)))))))
                have N16 : Hid (Blk W7 (wr.heap.size + 1) [.slice a7 (pack L').length c7, .int .i64 (L'.length : Nat)] 29) := hid (by rw [hW7]; exact (by repeat (first | exact Blk.new' (by simp; done) | exact Blk.new' rfl | with_reducible assumption | with_reducible refine Blk.alloc ?_ _ | with_reducible refine Blk.drew ?_ | with_reducible refine Blk.on ?_ _ | ((with_reducible refine Blk.chg ?_ (chg_chg _ _ _) ?_); rotate_left; (first | assumption | (focus (simp; done)) | (focus (simp; omega)))))))
                have N17 : Hid (Blk W7 (wr.heap.size) t'.cs 42) := hid (by rw [hW7]; exact (by repeat (first | exact Blk.new' (by simp; done) | exact Blk.new' rfl | with_reducible assumption | with_reducible refine Blk.alloc ?_ _ | with_reducible refine Blk.drew ?_ | with_reducible refine Blk.on ?_ _ | ((with_reducible refine Blk.chg ?_ (chg_chg _ _ _) ?_); rotate_left; (first | assumption | (focus (simp; done)) | (focus (simp; omega)))))))
                have AB : Hid (OwnB wr.heap.size W7 (.slice a7 (pack L').length c7) (pack L')) := hid (by rw [hW7]; (repeat (first | with_reducible refine Own.alloc ?_ _ | with_reducible refine Own.drew ?_)); exact Own.mono (Own.over_swap HO7.out (by first | exact Nat.le_refl _ | rfl | omega | (simp; done) | (simp; omega)) (by first | exact Nat.le_refl _ | rfl | omega | (simp; done) | (simp; omega))) (by first | exact Nat.le_refl _ | rfl | omega | (simp; done) | (simp; omega)))
                have hwW : wr.heap.size ≤ W7.heap.size := by rw [hW7]; simp; try omega
                clear hW7
                obtain ⟨p16, hp16⟩ : ∃ p, p = (wr.heap.size + 1) := ⟨_, rfl⟩
                obtain ⟨p17, hp17⟩ : ∃ p, p = (wr.heap.size) := ⟨_, rfl⟩
                first
                  | (rw [← hp17] at N17 ⊢; rw [← hp16] at N16 ⊢)
                  | (rw [← hp16] at N16 ⊢; rw [← hp17] at N17 ⊢)
                have n167 : ¬ p16 = p7 := by omega
                have n168 : ¬ p16 = p8 := by omega
                have n1614 : ¬ p16 = p14 := by omega
                have n177 : ¬ p17 = p7 := by omega
                have n178 : ¬ p17 = p8 := by omega
                have n1714 : ¬ p17 = p14 := by omega
                clear hp16 hp17
                clear r70 r71 g70 g71 l7 r80 r81 r82 r83 r84 r85 r86 g80 g81 g82 g83 g84 g85 g86 l8 r140 r141 r142 r143 r144 r145 r146 g140 g141 g142 g143 g144 g145 g146 l14 r100 r101 l10
                clear kr0 kr1 hbr
                obtain ⟨b6', o6', hb6', hbr, kr0, kr1⟩ := SlM.at_ (HS2.out W7 C7.out) hlt
                cases hb6'
                rw [HX6.out] at kr0 kr1
                have r70 := D7.out.cell 0 rfl
                have r71 := D7.out.cell 1 rfl
                have g70 := D7.out.free 0
                have g71 := D7.out.free 1
                have l7 := D7.out.lt
                have r80 := D8.out.cell 0 rfl
                have r81 := D8.out.cell 1 rfl
                have r82 := D8.out.cell 2 rfl
                have r83 := D8.out.cell 3 rfl
                have r84 := D8.out.cell 4 rfl
                have r85 := D8.out.cell 5 rfl
                have r86 := D8.out.cell 6 rfl
                have g80 := D8.out.free 0
                have g81 := D8.out.free 1
                have g82 := D8.out.free 2
                have g83 := D8.out.free 3
                have g84 := D8.out.free 4
                have g85 := D8.out.free 5
                have g86 := D8.out.free 6
                have l8 := D8.out.lt
                have r140 := D14.out.cell 0 rfl
                have r141 := D14.out.cell 1 rfl
                have r142 := D14.out.cell 2 rfl
                have r143 := D14.out.cell 3 rfl
                have r144 := D14.out.cell 4 rfl
                have r145 := D14.out.cell 5 rfl
                have r146 := D14.out.cell 6 rfl
                have g140 := D14.out.free 0
                have g141 := D14.out.free 1
                have g142 := D14.out.free 2
                have g143 := D14.out.free 3
                have g144 := D14.out.free 4
                have g145 := D14.out.free 5
                have g146 := D14.out.free 6
                have l14 := D14.out.lt
                have r100 := D10.out.cell 0 rfl
                have r101 := D10.out.cell 1 rfl
                have l10 := D10.out.lt
                have r160 := N16.out.cell 0 rfl
                have r161 := N16.out.cell 1 rfl
                have l16 := N16.out.lt
                have r170 := N17.out.cell 0 rfl
                have r171 := N17.out.cell 1 rfl
                have r172 := N17.out.cell 2 rfl
                have r173 := N17.out.cell 3 rfl
                have r174 := N17.out.cell 4 rfl
                have r175 := N17.out.cell 5 rfl
                have r176 := N17.out.cell 6 rfl
                have l17 := N17.out.lt
                have m61 : ∀ x, b6 < W7.heap.size + x := fun x => by omega
                have m62 : ∀ x y, b6 < W7.heap.size + x + y := fun x y => by omega
                have m63 : ∀ x y z, b6 < W7.heap.size + x + y + z := fun x y z => by omega
                have m71 : ∀ x, p17 < W7.heap.size + x := fun x => by omega
                have m72 : ∀ x y, p17 < W7.heap.size + x + y := fun x y => by omega
                have m73 : ∀ x y z, p17 < W7.heap.size + x + y + z := fun x y z => by omega
                go_wp2_with (go_at_call 34; (with_reducible refine (HG'.out _ (TabW.ch HT0.out C7.out h0F) (HA.out _ C7.out)).mono ?_); rintro _ _ ⟨⟨e8, rfl⟩, rfl⟩)
                refine wp_region_over (by kernel_rfl) (by kernel_rfl) ?_
                repeat (go_big_quiet_step ((fail)))
                refine wpQuiet_nil ?_
                intro _ hw'
                obtain ⟨nq, rfl⟩ := hw'
                refine gen_w ?_
                intro W9 hW9
                have C9 : Hid (Chg F W0 W9) := hid (by rw [hW9]; exact (by repeat (first | with_reducible exact C7.out | (focus (refine ChS.chg ?_; (repeat (first | with_reducible exact ChS.refl _ _ | with_reducible refine ChS.drewl ?_ | with_reducible refine ChS.drewr ?_ | with_reducible refine ChS.over ?_ _ | with_reducible refine chS_chgs ?_ _ | ((with_reducible refine chS_set ?_ _ ?_ _); rotate_left; (first | assumption | (focus (simp; done)) | (focus (simp; assumption)))) | with_reducible refine ChS.alloc ?_ _ | ((with_reducible refine ChS.lit ?_ ?_ _ _); rotate_left; (first | assumption | (focus (simp; done)) | (focus (simp; assumption)))) | with_reducible refine ChS.alloc ?_ _)); done)) | with_reducible refine Chg.alloc ?_ _ | with_reducible refine Chg.drew ?_ | with_reducible refine Chg.on ?_ _ | ((with_reducible refine Chg.setCell ?_ ?_ _); rotate_left; (first | (focus (left; assumption)) | (focus (left; simp; done)) | (focus (right; simp; done)) | (focus (right; simp; omega)) | (focus (left; simp; omega)))) | ((with_reducible refine Chg.in_ ?_ _ ?_); rotate_left; (first | assumption | (focus (intro i hi; left; simp at hi; subst hi; assumption)) | exact fun i hi => Or.inl hi | (focus (intro i hi; left; simp [hi]; done)) | (focus (intro i hi; left; simp at hi ⊢; simp [hi]; done)) | (focus (intro i hi; simp at hi ⊢; simp [hi]; done)) | (focus (intro i hi; simp at hi ⊢; omega)))))))
                have E7 : Hid (Blk W9 p7 [.slice a3 (pack L).length c3, .int .i64 (L.length : Nat)] 29) := hid (by rw [hW9]; exact (by repeat (first | with_reducible exact D7.out | with_reducible refine Blk.alloc ?_ _ | with_reducible refine Blk.drew ?_ | with_reducible refine Blk.on ?_ _ | ((with_reducible refine Blk.chg ?_ (chg_chg _ _ _) ?_); rotate_left; (first | assumption | (focus (simp; done)) | (focus (simp; omega)))) | with_reducible refine Blk.set ?_ _ _ | ((with_reducible refine Blk.set_ne ?_ ?_ _); rotate_left; (first | assumption | (focus (simp; done)) | (focus (simp; omega)))))))
                have E8 : Hid (Blk W9 p8 t.cs 42) := hid (by rw [hW9]; exact (by repeat (first | with_reducible exact D8.out | with_reducible refine Blk.alloc ?_ _ | with_reducible refine Blk.drew ?_ | with_reducible refine Blk.on ?_ _ | ((with_reducible refine Blk.chg ?_ (chg_chg _ _ _) ?_); rotate_left; (first | assumption | (focus (simp; done)) | (focus (simp; omega)))) | with_reducible refine Blk.set ?_ _ _ | ((with_reducible refine Blk.set_ne ?_ ?_ _); rotate_left; (first | assumption | (focus (simp; done)) | (focus (simp; omega)))))))
                have E14 : Hid (Blk W9 p14 t.cs 42) := hid (by rw [hW9]; exact (by repeat (first | with_reducible exact D14.out | with_reducible refine Blk.alloc ?_ _ | with_reducible refine Blk.drew ?_ | with_reducible refine Blk.on ?_ _ | ((with_reducible refine Blk.chg ?_ (chg_chg _ _ _) ?_); rotate_left; (first | assumption | (focus (simp; done)) | (focus (simp; omega)))) | with_reducible refine Blk.set ?_ _ _ | ((with_reducible refine Blk.set_ne ?_ ?_ _); rotate_left; (first | assumption | (focus (simp; done)) | (focus (simp; omega)))))))
                have E10 : Hid (Blk W9 p10 [.slice a5 (pack LA).length c5, .int .i64 (LA.length : Nat)] 29) := hid (by rw [hW9]; exact (by repeat (first | with_reducible exact D10.out | with_reducible refine Blk.alloc ?_ _ | with_reducible refine Blk.drew ?_ | with_reducible refine Blk.on ?_ _ | ((with_reducible refine Blk.chg ?_ (chg_chg _ _ _) ?_); rotate_left; (first | assumption | (focus (simp; done)) | (focus (simp; omega)))) | with_reducible refine Blk.set ?_ _ _ | ((with_reducible refine Blk.set_ne ?_ ?_ _); rotate_left; (first | assumption | (focus (simp; done)) | (focus (simp; omega)))))))
                have E16 : Hid (Blk W9 p16 [.slice a7 (pack L').length c7, .int .i64 (L'.length : Nat)] 29) := hid (by rw [hW9]; exact (by repeat (first | with_reducible exact N16.out | with_reducible refine Blk.alloc ?_ _ | with_reducible refine Blk.drew ?_ | with_reducible refine Blk.on ?_ _ | ((with_reducible refine Blk.chg ?_ (chg_chg _ _ _) ?_); rotate_left; (first | assumption | (focus (simp; done)) | (focus (simp; omega)))) | with_reducible refine Blk.set ?_ _ _ | ((with_reducible refine Blk.set_ne ?_ ?_ _); rotate_left; (first | assumption | (focus (simp; done)) | (focus (simp; omega)))))))
                have E17 : Hid (Blk W9 p17 t'.cs 42) := hid (by rw [hW9]; exact (by repeat (first | with_reducible exact N17.out | with_reducible refine Blk.alloc ?_ _ | with_reducible refine Blk.drew ?_ | with_reducible refine Blk.on ?_ _ | ((with_reducible refine Blk.chg ?_ (chg_chg _ _ _) ?_); rotate_left; (first | assumption | (focus (simp; done)) | (focus (simp; omega)))) | with_reducible refine Blk.set ?_ _ _ | ((with_reducible refine Blk.set_ne ?_ ?_ _); rotate_left; (first | assumption | (focus (simp; done)) | (focus (simp; omega)))))))
                have E21 : Hid (Blk W9 (W7.heap.size + e8.heap.size + 1) t'.cs 42) := hid (by rw [hW9]; (repeat (first | with_reducible refine Blk.on ?_ _ | with_reducible refine Blk.drew ?_)); exact Blk.new' (by simp))
                have AB9 : Hid (OwnB wr.heap.size W9 (.slice a7 (pack L').length c7) (pack L')) := hid (by rw [hW9]; exact (by repeat (first | with_reducible exact AB.out | ((with_reducible refine Own.set_ne ?_ ?_ _); rotate_left; (first | assumption | (focus (simp; done)) | (focus (simp [Value.ownBlock]; done)) | (focus (simp [Value.ownBlock]; omega)))) | ((with_reducible refine Own.in_some ?_ _ ?_); rotate_left; (first | assumption | (focus (simp; done)) | (focus (simp; omega)))) | ((with_reducible refine Own.in_one ?_ _ ?_); rotate_left; (first | assumption | (focus (simp [Value.ownBlock]; done)) | (focus (simp [Value.ownBlock]; omega)))) | ((with_reducible refine Own.chg ?_ (chg_chg _ _ _) ?_); rotate_left; (first | assumption | (focus (simp; done)) | (focus (simp; omega)))) | with_reducible refine Own.over ?_ _ | with_reducible refine Own.alloc ?_ _ | with_reducible refine Own.drew ?_ | exact AB.out)))
                have hwW9 : W7.heap.size + e8.heap.size + 1 < W9.heap.size := E21.out.lt
                clear hW9
                obtain ⟨p21, hp21⟩ : ∃ p, p = W7.heap.size + e8.heap.size + 1 := ⟨_, rfl⟩
                rw [← hp21] at E21 ⊢
                have n217 : ¬ p21 = p7 := by omega
                have n218 : ¬ p21 = p8 := by omega
                have n2114 : ¬ p21 = p14 := by omega
                clear hp21
                clear r70 r71 g70 g71 l7 r80 r81 r82 r83 r84 r85 r86 g80 g81 g82 g83 g84 g85 g86 l8 r140 r141 r142 r143 r144 r145 r146 g140 g141 g142 g143 g144 g145 g146 l14 r100 r101 l10
                clear kr0 kr1 hbr m61 m62 m63 m71 m72 m73 r160 r161 l16 r170 r171 r172 r173 r174 r175 r176 l17
                have r70 := E7.out.cell 0 rfl
                have r71 := E7.out.cell 1 rfl
                have g70 := E7.out.free 0
                have g71 := E7.out.free 1
                have l7 := E7.out.lt
                have r80 := E8.out.cell 0 rfl
                have r81 := E8.out.cell 1 rfl
                have r82 := E8.out.cell 2 rfl
                have r83 := E8.out.cell 3 rfl
                have r84 := E8.out.cell 4 rfl
                have r85 := E8.out.cell 5 rfl
                have r86 := E8.out.cell 6 rfl
                have g80 := E8.out.free 0
                have g81 := E8.out.free 1
                have g82 := E8.out.free 2
                have g83 := E8.out.free 3
                have g84 := E8.out.free 4
                have g85 := E8.out.free 5
                have g86 := E8.out.free 6
                have l8 := E8.out.lt
                have r140 := E14.out.cell 0 rfl
                have r141 := E14.out.cell 1 rfl
                have r142 := E14.out.cell 2 rfl
                have r143 := E14.out.cell 3 rfl
                have r144 := E14.out.cell 4 rfl
                have r145 := E14.out.cell 5 rfl
                have r146 := E14.out.cell 6 rfl
                have g140 := E14.out.free 0
                have g141 := E14.out.free 1
                have g142 := E14.out.free 2
                have g143 := E14.out.free 3
                have g144 := E14.out.free 4
                have g145 := E14.out.free 5
                have g146 := E14.out.free 6
                have l14 := E14.out.lt
                have r100 := E10.out.cell 0 rfl
                have r101 := E10.out.cell 1 rfl
                have l10 := E10.out.lt
                have r160 := E16.out.cell 0 rfl
                have r161 := E16.out.cell 1 rfl
                have l16 := E16.out.lt
                have r170 := E17.out.cell 0 rfl
                have r171 := E17.out.cell 1 rfl
                have r172 := E17.out.cell 2 rfl
                have r173 := E17.out.cell 3 rfl
                have r174 := E17.out.cell 4 rfl
                have r175 := E17.out.cell 5 rfl
                have r176 := E17.out.cell 6 rfl
                have l17 := E17.out.lt
                have r210 := E21.out.cell 0 rfl
                have r211 := E21.out.cell 1 rfl
                have r212 := E21.out.cell 2 rfl
                have r213 := E21.out.cell 3 rfl
                have r214 := E21.out.cell 4 rfl
                have r215 := E21.out.cell 5 rfl
                have r216 := E21.out.cell 6 rfl
                have l21 := E21.out.lt
                go_wp2_with fail
                go_roundw
                case rel =>
                  refine ⟨k + 1, by omega, by go_num, by rw [HL'.out], ?_⟩
                  with_reducible refine go_next C9.out HL'.out HT'.out E7.out E8.out E14.out m7 m8 m14 n78 n714 n814 AB9.out hb4'.out
                case measure => simp [intOf]; omega
              exact M2.tree_no
            exact M2.tree_no
          exact M2.tree_no
        exact M2.tree_no
      exact M2.tree_no
    · obtain rfl : k = XS.length := by omega
      rw [List.take_length] at *
      have e1 := HLA.out
      have HS8 : Hid (∀ W, Chg F wr W → SlB W a3 c3 (pack LA)) := hid (by have h := HS7.out; rw [e1] at h; exact h)
      simp only [e1] at *
      have HSm := hid (fun b1 c1 b2 c2 W h1 h2 => rsame_any (pack LA) (pack LA) pack_lt pack_lt LA.length LA.length b1 c1 b2 c2 W h1 h2)
      rw [decide_eq_true rfl, decide_eq_true rfl] at HSm
      clear e1 hxk hkn hbl hbA
      have hfin : Hid (∃ e, wr = over w e) := hid (Chg.ov O0.out C.out hF1.out)
      go_wp2_with (go_at_call 23; (with_reducible refine (HSm.out _ _ _ _ _ (HS8.out _ (by repeat (first | with_reducible exact Chg.refl _ _ | (focus (refine ChS.chg ?_; (repeat (first | with_reducible exact ChS.refl _ _ | with_reducible refine ChS.drewl ?_ | with_reducible refine ChS.drewr ?_ | with_reducible refine ChS.over ?_ _ | with_reducible refine chS_chgs ?_ _ | ((with_reducible refine chS_set ?_ _ ?_ _); rotate_left; (first | assumption | (focus (simp; done)) | (focus (simp; assumption)))) | with_reducible refine ChS.alloc ?_ _ | ((with_reducible refine ChS.lit ?_ ?_ _ _); rotate_left; (first | assumption | (focus (simp; done)) | (focus (simp; assumption)))) | with_reducible refine ChS.alloc ?_ _)); done)) | with_reducible refine Chg.alloc ?_ _ | with_reducible refine Chg.drew ?_ | with_reducible refine Chg.on ?_ _ | ((with_reducible refine Chg.setCell ?_ ?_ _); rotate_left; (first | (focus (left; assumption)) | (focus (left; simp; done)) | (focus (right; simp; done)) | (focus (right; simp; omega)) | (focus (left; simp; omega)))) | ((with_reducible refine Chg.in_ ?_ _ ?_); rotate_left; (first | assumption | (focus (intro i hi; left; simp at hi; subst hi; assumption)) | exact fun i hi => Or.inl hi | (focus (intro i hi; left; simp [hi]; done)) | (focus (intro i hi; left; simp at hi ⊢; simp [hi]; done)) | (focus (intro i hi; simp at hi ⊢; simp [hi]; done)) | (focus (intro i hi; simp at hi ⊢; omega))))))) (HA.out _ (by repeat (first | with_reducible exact C.out | (focus (refine ChS.chg ?_; (repeat (first | with_reducible exact ChS.refl _ _ | with_reducible refine ChS.drewl ?_ | with_reducible refine ChS.drewr ?_ | with_reducible refine ChS.over ?_ _ | with_reducible refine chS_chgs ?_ _ | ((with_reducible refine chS_set ?_ _ ?_ _); rotate_left; (first | assumption | (focus (simp; done)) | (focus (simp; assumption)))) | with_reducible refine ChS.alloc ?_ _ | ((with_reducible refine ChS.lit ?_ ?_ _ _); rotate_left; (first | assumption | (focus (simp; done)) | (focus (simp; assumption)))) | with_reducible refine ChS.alloc ?_ _)); done)) | with_reducible refine Chg.alloc ?_ _ | with_reducible refine Chg.drew ?_ | with_reducible refine Chg.on ?_ _ | ((with_reducible refine Chg.setCell ?_ ?_ _); rotate_left; (first | (focus (left; assumption)) | (focus (left; simp; done)) | (focus (right; simp; done)) | (focus (right; simp; omega)) | (focus (left; simp; omega)))) | ((with_reducible refine Chg.in_ ?_ _ ?_); rotate_left; (first | assumption | (focus (intro i hi; left; simp at hi; subst hi; assumption)) | exact fun i hi => Or.inl hi | (focus (intro i hi; left; simp [hi]; done)) | (focus (intro i hi; left; simp at hi ⊢; simp [hi]; done)) | (focus (intro i hi; simp at hi ⊢; simp [hi]; done)) | (focus (intro i hi; simp at hi ⊢; omega)))))))).mono ?_); rintro _ _ ⟨⟨e9, rfl⟩, rfl⟩)
      go_ret
      exact ⟨(by (try unfold Ov); repeat (first | with_reducible exact hfin.out | with_reducible exact hfin.out | with_reducible refine ex_undrew ?_ | with_reducible refine ex_into ?_ _ | with_reducible refine ex_alloc ?_ _ | with_reducible refine ex_drew ?_ | ((with_reducible refine ex_setCell ?_ ?_ _); rotate_left; (first | omega | (focus (simp; done)) | (focus (simp; omega)))) | ((with_reducible refine ex_chg ?_ _ ?_); rotate_left; (first | assumption | (exact Hid.out (by assumption)))) | exact ex_over)), rfl⟩
end Go.Proofs.YthljlajdkdgieaaDoor
