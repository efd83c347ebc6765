/- Walks: ChunkLays, ChunkApart. -/
import Derived.Test.YthljlajdkdgieaaDoorChkR
namespace Go.Proofs.YthljlajdkdgieaaDoor
set_option linter.unusedVariables false
set_option linter.unusedSimpArgs false
open Go.RowKit
attribute [local go_sem] over_drew chg_drew

/-- The document's bits whose number is told, the rest laid out. -/
def RcN (w : World) (L : List Bool) (N : Int) (ev : Value) (en : Ending) (w' : World) : Prop :=
  ∃ a c, en = .returned (.tuple #[bv a (pack L).length c N, ev, .int .i64 0]) ∧ (∃ x, w' = over w x) ∧ SlB w' a c (pack L)
theorem RcoPost.n {w w' : World} {L : List Bool} {e : En} {en : Ending} (h : RcoPost w (L, e, 0) en w') : RcN w L L.length e.v en w' := by
  obtain ⟨a, c, h1, h2, h3⟩ := h; exact ⟨a, c, h1, h2, (Own.slice' bcs_len h3).2⟩
abbrev zeV : Value := .agg #[.int .i64 0, .int .i64 0, .int .i64 0, .bool false, .int .u64 0, .int .u8 0, .int .u8 0]
def CbN (w : World) (ev : Value) (en : Ending) (w' : World) : Prop :=
  ∃ a c, en = .returned (.tuple #[bv a 0 c 0, zeV, ev]) ∧ (∃ x, w' = over w x) ∧ SlB w' a c []
theorem CoPost.bad {w w' : World} {en : Ending} (h : CoPost w ([], En.zero, 60) en w') : CbN w (.int .u16 60) en w' := by
  obtain ⟨a, c, h1, h2, h3⟩ := h; rw [pack_nil] at h1 h3; exact ⟨a, c, h1, h2, (Own.slice' bcs_len h3).2⟩
theorem RcoPost.bad {w w' : World} {en : Ending} (h : RcoPost w ([], En.zero, 60) en w') : CbN w (.int .i64 60) en w' := by
  obtain ⟨a, c, h1, h2, h3⟩ := h; rw [pack_nil] at h1 h3; exact ⟨a, c, h1, h2, (Own.slice' bcs_len h3).2⟩

set_option maxRecDepth 100000 in
set_option maxHeartbeats 4000000 in
theorem chunkLays_any (xs : List Sm) (hx : ∀ s ∈ xs, s.wf) (a : Option Addr) (cap : Nat) (w : World) (hT : TabW w) (hs : SlM w a cap xs) :
    Calls Tryd.prog 8 #[.slice a xs.length cap] w (Ret w (.bool true)) := by
  have HK := hid (fun W hW => known06_any W hW)
  by_cases hlen : (40 : Int) < (xs.length : Int)
  · go_enter Tryd.func8, Tryd.ntmps8
    go_wp2_with (go_at_call 24; (with_reducible refine (HK.out _ (by repeat (first | with_reducible exact hT | with_reducible refine TabW.over ?_ _ | with_reducible refine TabW.alloc ?_ _ | with_reducible refine TabW.drew ?_ | ((with_reducible refine TabW.setCell ?_ ?_ _); rotate_left; (first | (focus (simp; done)) | (focus (simp; omega)))) | ((with_reducible refine TabW.chg ?_ _ ?_); rotate_left; (first | assumption | (focus (simp; done)) | (focus (simp; omega)))) | exact hT))).mono ?_); rintro _ _ ⟨⟨e1, rfl⟩, rfl⟩)
    go_ret
    exact ⟨(by (try unfold Ov); repeat (first | with_reducible exact ex_over | with_reducible exact over_self _ | with_reducible refine ex_undrew ?_ | with_reducible refine ex_into ?_ _ | with_reducible refine ex_alloc ?_ _ | with_reducible refine ex_drew ?_ | ((with_reducible refine ex_setCell ?_ ?_ _); rotate_left; (first | omega | (focus (simp; done)) | (focus (simp; omega)))) | ((with_reducible refine ex_chg ?_ _ ?_); rotate_left; (first | assumption | (exact Hid.out (by assumption)))) | exact ex_over)), rfl⟩
  by_cases hg : goodC En.zero xs
  · have HP := hid (fun W h1 h2 => (cof_any xs hx (by omega) a cap W h1 h2).mono fun _ _ h => by rw [ofC_good hg] at h; exact h.n (N := (bitsC En.zero xs).length) rfl rfl)
    have HR := hid (fun W h1 h2 => (rcof_any xs hx (by omega) a cap W h1 h2).mono fun _ _ h => by rw [ofC_good hg] at h; exact h.n)
    generalize bitsC En.zero xs = L at *
    generalize knowC En.zero xs = t' at *
    have HS := hid (fun b1 c1 b2 c2 W h1 h2 => rsame_any (pack L) (pack L) pack_lt pack_lt L.length L.length b1 c1 b2 c2 W h1 h2)
    rw [decide_eq_true rfl, decide_eq_true rfl] at HS
    clear hx hg
    go_enter Tryd.func8, Tryd.ntmps8
    go_wp2_with (first | (go_at_call 24; (with_reducible refine (HK.out _ (by repeat (first | with_reducible exact hT | with_reducible refine TabW.over ?_ _ | with_reducible refine TabW.alloc ?_ _ | with_reducible refine TabW.drew ?_ | ((with_reducible refine TabW.setCell ?_ ?_ _); rotate_left; (first | (focus (simp; done)) | (focus (simp; omega)))) | ((with_reducible refine TabW.chg ?_ _ ?_); rotate_left; (first | assumption | (focus (simp; done)) | (focus (simp; omega)))) | exact hT))).mono ?_); rintro _ _ ⟨⟨e1, rfl⟩, rfl⟩) | (go_at_call 26; (with_reducible refine (HP.out _ (by repeat (first | with_reducible exact hT | with_reducible refine TabW.over ?_ _ | with_reducible refine TabW.alloc ?_ _ | with_reducible refine TabW.drew ?_ | ((with_reducible refine TabW.setCell ?_ ?_ _); rotate_left; (first | (focus (simp; done)) | (focus (simp; omega)))) | ((with_reducible refine TabW.chg ?_ _ ?_); rotate_left; (first | assumption | (focus (simp; done)) | (focus (simp; omega)))) | exact hT)) (by repeat (first | with_reducible exact hs | with_reducible refine Sl.over ?_ _ | with_reducible refine Sl.alloc ?_ _ | with_reducible refine Sl.drew ?_ | exact hs))).mono ?_); rintro _ _ ⟨a2, c2, rfl, ⟨e2, rfl⟩, s2⟩) | (go_at_call 30; (with_reducible refine (HR.out _ (by repeat (first | with_reducible exact hT | with_reducible refine TabW.over ?_ _ | with_reducible refine TabW.alloc ?_ _ | with_reducible refine TabW.drew ?_ | ((with_reducible refine TabW.setCell ?_ ?_ _); rotate_left; (first | (focus (simp; done)) | (focus (simp; omega)))) | ((with_reducible refine TabW.chg ?_ _ ?_); rotate_left; (first | assumption | (focus (simp; done)) | (focus (simp; omega)))) | exact hT)) (by repeat (first | with_reducible exact hs | with_reducible refine Sl.over ?_ _ | with_reducible refine Sl.alloc ?_ _ | with_reducible refine Sl.drew ?_ | exact hs))).mono ?_); rintro _ _ ⟨a3, c3, rfl, ⟨e3, rfl⟩, s3⟩) | (go_at_call 23; (with_reducible refine (HS.out _ _ _ _ _ (by repeat (first | with_reducible exact s2 | with_reducible refine Sl.over ?_ _ | with_reducible refine Sl.alloc ?_ _ | with_reducible refine Sl.drew ?_ | exact s2)) (by repeat (first | with_reducible exact s3 | with_reducible refine Sl.over ?_ _ | with_reducible refine Sl.alloc ?_ _ | with_reducible refine Sl.drew ?_ | exact s3))).mono ?_); rintro _ _ ⟨⟨e4, rfl⟩, rfl⟩))
    go_ret
    exact ⟨(by (try unfold Ov); repeat (first | with_reducible exact ex_over | with_reducible exact over_self _ | with_reducible refine ex_undrew ?_ | with_reducible refine ex_into ?_ _ | with_reducible refine ex_alloc ?_ _ | with_reducible refine ex_drew ?_ | ((with_reducible refine ex_setCell ?_ ?_ _); rotate_left; (first | omega | (focus (simp; done)) | (focus (simp; omega)))) | ((with_reducible refine ex_chg ?_ _ ?_); rotate_left; (first | assumption | (exact Hid.out (by assumption)))) | exact ex_over)), rfl⟩
  · have hof : ofC xs = ([], En.zero, 60) := if_neg hg
    have HP := hid (fun W h1 h2 => (cof_any xs hx (by omega) a cap W h1 h2).mono fun _ _ h => by rw [hof] at h; exact h.bad)
    have HR := hid (fun W h1 h2 => (rcof_any xs hx (by omega) a cap W h1 h2).mono fun _ _ h => by rw [hof] at h; exact h.bad)
    have HS : Hid (∀ b1 c1 b2 c2 W, SlB W b1 c1 [] → SlB W b2 c2 [] → Calls Tryd.prog 23 #[bv b1 0 c1 0, bv b2 0 c2 0] W (Ret W (.bool true))) := hid (fun b1 c1 b2 c2 W h1 h2 => rsame_any [] [] (by simp) (by simp) 0 0 b1 c1 b2 c2 W h1 h2)
    clear hx hg hof
    go_enter Tryd.func8, Tryd.ntmps8
    go_wp2_with (first | (go_at_call 24; (with_reducible refine (HK.out _ (by repeat (first | with_reducible exact hT | with_reducible refine TabW.over ?_ _ | with_reducible refine TabW.alloc ?_ _ | with_reducible refine TabW.drew ?_ | ((with_reducible refine TabW.setCell ?_ ?_ _); rotate_left; (first | (focus (simp; done)) | (focus (simp; omega)))) | ((with_reducible refine TabW.chg ?_ _ ?_); rotate_left; (first | assumption | (focus (simp; done)) | (focus (simp; omega)))) | exact hT))).mono ?_); rintro _ _ ⟨⟨e1, rfl⟩, rfl⟩) | (go_at_call 26; (with_reducible refine (HP.out _ (by repeat (first | with_reducible exact hT | with_reducible refine TabW.over ?_ _ | with_reducible refine TabW.alloc ?_ _ | with_reducible refine TabW.drew ?_ | ((with_reducible refine TabW.setCell ?_ ?_ _); rotate_left; (first | (focus (simp; done)) | (focus (simp; omega)))) | ((with_reducible refine TabW.chg ?_ _ ?_); rotate_left; (first | assumption | (focus (simp; done)) | (focus (simp; omega)))) | exact hT)) (by repeat (first | with_reducible exact hs | with_reducible refine Sl.over ?_ _ | with_reducible refine Sl.alloc ?_ _ | with_reducible refine Sl.drew ?_ | exact hs))).mono ?_); rintro _ _ ⟨a2, c2, rfl, ⟨e2, rfl⟩, s2⟩) | (go_at_call 30; (with_reducible refine (HR.out _ (by repeat (first | with_reducible exact hT | with_reducible refine TabW.over ?_ _ | with_reducible refine TabW.alloc ?_ _ | with_reducible refine TabW.drew ?_ | ((with_reducible refine TabW.setCell ?_ ?_ _); rotate_left; (first | (focus (simp; done)) | (focus (simp; omega)))) | ((with_reducible refine TabW.chg ?_ _ ?_); rotate_left; (first | assumption | (focus (simp; done)) | (focus (simp; omega)))) | exact hT)) (by repeat (first | with_reducible exact hs | with_reducible refine Sl.over ?_ _ | with_reducible refine Sl.alloc ?_ _ | with_reducible refine Sl.drew ?_ | exact hs))).mono ?_); rintro _ _ ⟨a3, c3, rfl, ⟨e3, rfl⟩, s3⟩) | (go_at_call 23; (with_reducible refine (HS.out _ _ _ _ _ (by repeat (first | with_reducible exact s2 | with_reducible refine Sl.over ?_ _ | with_reducible refine Sl.alloc ?_ _ | with_reducible refine Sl.drew ?_ | exact s2)) (by repeat (first | with_reducible exact s3 | with_reducible refine Sl.over ?_ _ | with_reducible refine Sl.alloc ?_ _ | with_reducible refine Sl.drew ?_ | exact s3))).mono ?_); rintro _ _ ⟨⟨e4, rfl⟩, rfl⟩))
    go_ret
    exact ⟨(by (try unfold Ov); repeat (first | with_reducible exact ex_over | with_reducible exact over_self _ | with_reducible refine ex_undrew ?_ | with_reducible refine ex_into ?_ _ | with_reducible refine ex_alloc ?_ _ | with_reducible refine ex_drew ?_ | ((with_reducible refine ex_setCell ?_ ?_ _); rotate_left; (first | omega | (focus (simp; done)) | (focus (simp; omega)))) | ((with_reducible refine ex_chg ?_ _ ?_); rotate_left; (first | assumption | (exact Hid.out (by assumption)))) | exact ex_over)), rfl⟩

theorem pack_inj2 {a b : List Bool} (hl : a.length = b.length) (h : pack a = pack b) : a = b := by
  apply List.ext_getElem hl
  intro i h1 h2
  have e1 := pack_bit (pack_at h1)
  have e2 := pack_bit (pack_at h2)
  rw [getD_getElem h1] at e1
  rw [getD_getElem h2] at e2
  rw [← e1, ← e2]
  congr 1
  congr 1

set_option maxRecDepth 100000 in
set_option maxHeartbeats 4000000 in
theorem chunkApart_any (xs : List Sm) (hx : ∀ s ∈ xs, s.wf) (a : Option Addr) (cap : Nat) (ys : List Sm) (hy : ∀ s ∈ ys, s.wf) (b : Option Addr) (cap' : Nat) (w : World) (hT : TabW w) (hs : SlM w a cap xs) (ht : SlM w b cap' ys) :
    Calls Tryd.prog 6 #[.slice a xs.length cap, .slice b ys.length cap'] w (Ret w (.bool true)) := by
  have HK := hid (fun W hW => known06_any W hW)
  by_cases hl1 : (30 : Int) < (xs.length : Int)
  · go_enter Tryd.func6, Tryd.ntmps6
    go_wp2_with (go_at_call 24; (with_reducible refine (HK.out _ (by repeat (first | with_reducible exact hT | with_reducible refine TabW.over ?_ _ | with_reducible refine TabW.alloc ?_ _ | with_reducible refine TabW.drew ?_ | ((with_reducible refine TabW.setCell ?_ ?_ _); rotate_left; (first | (focus (simp; done)) | (focus (simp; omega)))) | ((with_reducible refine TabW.chg ?_ _ ?_); rotate_left; (first | assumption | (focus (simp; done)) | (focus (simp; omega)))) | exact hT))).mono ?_); rintro _ _ ⟨⟨e1, rfl⟩, rfl⟩)
    go_ret
    exact ⟨(by (try unfold Ov); repeat (first | with_reducible exact ex_over | with_reducible exact over_self _ | with_reducible refine ex_undrew ?_ | with_reducible refine ex_into ?_ _ | with_reducible refine ex_alloc ?_ _ | with_reducible refine ex_drew ?_ | ((with_reducible refine ex_setCell ?_ ?_ _); rotate_left; (first | omega | (focus (simp; done)) | (focus (simp; omega)))) | ((with_reducible refine ex_chg ?_ _ ?_); rotate_left; (first | assumption | (exact Hid.out (by assumption)))) | exact ex_over)), rfl⟩
  by_cases hl2 : (30 : Int) < (ys.length : Int)
  · go_enter Tryd.func6, Tryd.ntmps6
    go_wp2_with (go_at_call 24; (with_reducible refine (HK.out _ (by repeat (first | with_reducible exact hT | with_reducible refine TabW.over ?_ _ | with_reducible refine TabW.alloc ?_ _ | with_reducible refine TabW.drew ?_ | ((with_reducible refine TabW.setCell ?_ ?_ _); rotate_left; (first | (focus (simp; done)) | (focus (simp; omega)))) | ((with_reducible refine TabW.chg ?_ _ ?_); rotate_left; (first | assumption | (focus (simp; done)) | (focus (simp; omega)))) | exact hT))).mono ?_); rintro _ _ ⟨⟨e1, rfl⟩, rfl⟩)
    go_ret
    exact ⟨(by (try unfold Ov); repeat (first | with_reducible exact ex_over | with_reducible exact over_self _ | with_reducible refine ex_undrew ?_ | with_reducible refine ex_into ?_ _ | with_reducible refine ex_alloc ?_ _ | with_reducible refine ex_drew ?_ | ((with_reducible refine ex_setCell ?_ ?_ _); rotate_left; (first | omega | (focus (simp; done)) | (focus (simp; omega)))) | ((with_reducible refine ex_chg ?_ _ ?_); rotate_left; (first | assumption | (exact Hid.out (by assumption)))) | exact ex_over)), rfl⟩
  obtain ⟨p1, p2, p3⟩ := rise_ok xs hx
  obtain ⟨q1, q2, q3⟩ := rise_ok ys hy
  have HX := hid (fun W h => rising_any xs hx (by omega) a cap W h)
  have HY := hid (fun W h => rising_any ys hy (by omega) b cap' W h)
  have HP := hid (fun a c W h1 h2 => (cof_any (riseC xs) p1 (by omega) a c W h1 h2).mono fun _ _ h => by rw [ofC_good p2] at h; exact h.n (N := (bitsC En.zero (riseC xs)).length) rfl rfl)
  have HQ := hid (fun a c W h1 h2 => (cof_any (riseC ys) q1 (by omega) a c W h1 h2).mono fun _ _ h => by rw [ofC_good q2] at h; exact h.n (N := (bitsC En.zero (riseC ys)).length) rfl rfl)
  have HS := hid (fun b1 c1 b2 c2 W h1 h2 => rsame_any (pack (bitsC En.zero (riseC xs))) (pack (bitsC En.zero (riseC ys))) pack_lt pack_lt (bitsC En.zero (riseC xs)).length (bitsC En.zero (riseC ys)).length b1 c1 b2 c2 W h1 h2)
  have hb : (decide (((bitsC En.zero (riseC xs)).length : Int) = ((bitsC En.zero (riseC ys)).length : Int)) && decide (pack (bitsC En.zero (riseC xs)) = pack (bitsC En.zero (riseC ys)))) = decide (riseC xs = riseC ys) := by
    rw [Bool.eq_iff_iff]
    simp only [Bool.and_eq_true, decide_eq_true_eq]
    constructor
    · rintro ⟨h1, h2⟩
      exact bitsZ_inj p1 q1 (by omega) p2 q2 (pack_inj2 (by omega) h2)
    · intro h; rw [h]; exact ⟨rfl, rfl⟩
  rw [hb] at HS
  have HM := hid (fun a1 c1 b1 d1 W h1 h2 => rcsame_any (riseC xs) (riseC ys) (by omega) a1 c1 b1 d1 W h1 h2)
  generalize hbb : decide (riseC xs = riseC ys) = bb at *
  clear hbb hb
  generalize riseC xs = XS at *
  generalize riseC ys = YS at *
  generalize bitsC En.zero XS = L1 at *
  generalize bitsC En.zero YS = L2 at *
  generalize knowC En.zero XS = t1 at *
  generalize knowC En.zero YS = t2 at *
  clear p1 p2 q1 q2 hx hy
  cases bb
  all_goals
    go_enter Tryd.func6, Tryd.ntmps6
    go_wp2_with (first | (go_at_call 24; (with_reducible refine (HK.out _ (by repeat (first | with_reducible exact hT | with_reducible refine TabW.over ?_ _ | with_reducible refine TabW.alloc ?_ _ | with_reducible refine TabW.drew ?_ | ((with_reducible refine TabW.setCell ?_ ?_ _); rotate_left; (first | (focus (simp; done)) | (focus (simp; omega)))) | ((with_reducible refine TabW.chg ?_ _ ?_); rotate_left; (first | assumption | (focus (simp; done)) | (focus (simp; omega)))) | exact hT))).mono ?_); rintro _ _ ⟨⟨e1, rfl⟩, rfl⟩) | (go_at_call 25; (with_reducible refine (HX.out _ (by repeat (first | with_reducible exact hs | with_reducible refine Sl.over ?_ _ | with_reducible refine Sl.alloc ?_ _ | with_reducible refine Sl.drew ?_ | exact hs))).mono ?_); rintro _ _ ⟨⟨e2, rfl⟩, v2, rfl, o2⟩; obtain ⟨a2, c2, rfl, s2⟩ := Own.slice Sm.cs_len o2; clear o2) | (go_at_call 25; (with_reducible refine (HY.out _ (by repeat (first | with_reducible exact ht | with_reducible refine Sl.over ?_ _ | with_reducible refine Sl.alloc ?_ _ | with_reducible refine Sl.drew ?_ | exact ht))).mono ?_); rintro _ _ ⟨⟨e3, rfl⟩, v3, rfl, o3⟩; obtain ⟨a3, c3, rfl, s3⟩ := Own.slice Sm.cs_len o3; clear o3) | (go_at_call 26; (with_reducible refine (HP.out _ _ _ (by repeat (first | with_reducible exact hT | with_reducible refine TabW.over ?_ _ | with_reducible refine TabW.alloc ?_ _ | with_reducible refine TabW.drew ?_ | ((with_reducible refine TabW.setCell ?_ ?_ _); rotate_left; (first | (focus (simp; done)) | (focus (simp; omega)))) | ((with_reducible refine TabW.chg ?_ _ ?_); rotate_left; (first | assumption | (focus (simp; done)) | (focus (simp; omega)))) | exact hT)) (by repeat (first | with_reducible exact s2 | with_reducible refine Sl.over ?_ _ | with_reducible refine Sl.alloc ?_ _ | with_reducible refine Sl.drew ?_ | exact s2))).mono ?_); rintro _ _ ⟨a4, c4, rfl, ⟨e4, rfl⟩, s4⟩) | (go_at_call 26; (with_reducible refine (HQ.out _ _ _ (by repeat (first | with_reducible exact hT | with_reducible refine TabW.over ?_ _ | with_reducible refine TabW.alloc ?_ _ | with_reducible refine TabW.drew ?_ | ((with_reducible refine TabW.setCell ?_ ?_ _); rotate_left; (first | (focus (simp; done)) | (focus (simp; omega)))) | ((with_reducible refine TabW.chg ?_ _ ?_); rotate_left; (first | assumption | (focus (simp; done)) | (focus (simp; omega)))) | exact hT)) (by repeat (first | with_reducible exact s3 | with_reducible refine Sl.over ?_ _ | with_reducible refine Sl.alloc ?_ _ | with_reducible refine Sl.drew ?_ | exact s3))).mono ?_); rintro _ _ ⟨a5, c5, rfl, ⟨e5, rfl⟩, s5⟩) | (go_at_call 23; (with_reducible refine (HS.out _ _ _ _ _ (by repeat (first | with_reducible exact s4 | with_reducible refine Sl.over ?_ _ | with_reducible refine Sl.alloc ?_ _ | with_reducible refine Sl.drew ?_ | exact s4)) (by repeat (first | with_reducible exact s5 | with_reducible refine Sl.over ?_ _ | with_reducible refine Sl.alloc ?_ _ | with_reducible refine Sl.drew ?_ | exact s5))).mono ?_); rintro _ _ ⟨⟨e6, rfl⟩, rfl⟩) | (go_at_call 27; (with_reducible refine (HM.out _ _ _ _ _ (by repeat (first | with_reducible exact s2 | with_reducible refine Sl.over ?_ _ | with_reducible refine Sl.alloc ?_ _ | with_reducible refine Sl.drew ?_ | exact s2)) (by repeat (first | with_reducible exact s3 | with_reducible refine Sl.over ?_ _ | with_reducible refine Sl.alloc ?_ _ | with_reducible refine Sl.drew ?_ | exact s3))).mono ?_); rintro _ _ ⟨⟨e7, rfl⟩, rfl⟩))
    go_ret
    exact ⟨(by (try unfold Ov); repeat (first | with_reducible exact ex_over | with_reducible exact over_self _ | with_reducible refine ex_undrew ?_ | with_reducible refine ex_into ?_ _ | with_reducible refine ex_alloc ?_ _ | with_reducible refine ex_drew ?_ | ((with_reducible refine ex_setCell ?_ ?_ _); rotate_left; (first | omega | (focus (simp; done)) | (focus (simp; omega)))) | ((with_reducible refine ex_chg ?_ _ ?_); rotate_left; (first | assumption | (exact Hid.out (by assumption)))) | exact ex_over)), rfl⟩
end Go.Proofs.YthljlajdkdgieaaDoor
