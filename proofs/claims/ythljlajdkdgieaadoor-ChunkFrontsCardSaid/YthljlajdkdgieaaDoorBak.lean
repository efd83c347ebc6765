/- Walks: ChunkBack. -/
import Derived.Test.YthljlajdkdgieaaDoorOnl
import Derived.Test.YthljlajdkdgieaaDoorChkZ
namespace Go.Proofs.YthljlajdkdgieaaDoor
set_option linter.unusedVariables false
set_option linter.unusedSimpArgs false
open Go.RowKit
attribute [local go_sem] over_drew chg_drew

/-- What was laid is read to its end. -/
theorem runC_of {xs : List Sm} (hx : ∀ s ∈ xs, s.wf) (hl : xs.length ≤ 1000000) (g : goodC En.zero xs) : RunC (bitsC En.zero xs) xs 0 :=
  ⟨⟨hx, (bitsZ_len hx hl).1, g, [], by simp⟩, .inl ⟨rfl, rfl⟩⟩
/-- Places as a slice. -/
def EndS (w : World) (us : List Nat) (er : Value) (en : Ending) (w' : World) : Prop :=
  ∃ a c, en = .returned (.tuple #[.slice a us.length c, er]) ∧ (∃ x, w' = over w x) ∧ SlI w' a c us
theorem EndPost.s {w w' : World} {us : List Nat} {er : Nat} {en : Ending} (h : EndPost w us er en w') {rv : Value} (hr : (.int .u16 (er : Nat) : Value) = rv) : EndS w us rv en w' := by
  subst hr
  obtain ⟨v, h1, h2, h3⟩ := h
  obtain ⟨a, c, rfl, s⟩ := Own.slice ics_len h3
  exact ⟨a, c, h1, h2, s⟩
/-- What is laid is read: contracts of All and Ends. -/
theorem all_good {xs : List Sm} (hx : ∀ s ∈ xs, s.wf) (hl : xs.length ≤ 4000) (g : goodC En.zero xs) (a : Option Addr) (c : Nat) (w : World) (hT : TabW w) (hs : SlB w a c (pack (bitsC En.zero xs))) :
    Calls Tryd.prog 36 #[bv a (pack (bitsC En.zero xs)).length c (bitsC En.zero xs).length] w (AllS w xs (knowC En.zero xs).v (.int .u16 0)) := by
  have hb := bitsZ_len hx (by omega)
  have h := call_any _ _ a c xs 0 (each_ok (by omega) a c (runC_of hx (by omega) g)) (by omega) w hT hs
  rw [if_pos rfl, if_pos rfl] at h
  exact h.mono fun _ _ h => h.s rfl rfl
theorem ends_good {xs : List Sm} (hx : ∀ s ∈ xs, s.wf) (hl : xs.length ≤ 4000) (g : goodC En.zero xs) (a : Option Addr) (c : Nat) (w : World) (hT : TabW w) (hs : SlB w a c (pack (bitsC En.zero xs))) :
    Calls Tryd.prog 39 #[bv a (pack (bitsC En.zero xs)).length c (bitsC En.zero xs).length] w (EndS w (endsK xs xs.length) (.int .u16 0)) := by
  have hb := bitsZ_len hx (by omega)
  have h := cends_any _ _ a c xs 0 (each_ok (by omega) a c (runC_of hx (by omega) g)) (by omega) w hT hs
  rw [if_pos rfl] at h
  exact h.mono fun _ _ h => h.s rfl

set_option maxRecDepth 100000 in
set_option maxHeartbeats 8000000 in
theorem chunkBack_any (xs : List Sm) (hx : ∀ s ∈ xs, s.wf) (a : Option Addr) (cap : Nat) (w : World) (hT : TabW w) (hs : SlM w a cap xs) :
    Calls Tryd.prog 16 #[.slice a xs.length cap] w (Ret w (.bool true)) := by
  have HK := hid (fun W hW => known06_any W hW)
  by_cases hlen : (40 : Int) < (xs.length : Int)
  · go_enter Tryd.func16, Tryd.ntmps16
    go_wp2_with (go_at_call 24; (with_reducible refine (HK.out _ (by repeat (first | with_reducible exact hT | with_reducible refine TabW.over ?_ _ | with_reducible refine TabW.alloc ?_ _ | with_reducible refine TabW.drew ?_ | ((with_reducible refine TabW.setCell ?_ ?_ _); rotate_left; (first | (focus (simp; done)) | (focus (simp; omega)))) | ((with_reducible refine TabW.chg ?_ _ ?_); rotate_left; (first | assumption | (focus (simp; done)) | (focus (simp; omega)))) | exact hT))).mono ?_); rintro _ _ ⟨⟨e1, rfl⟩, rfl⟩)
    go_ret
    exact ⟨(by (try unfold Ov); repeat (first | with_reducible exact ex_over | with_reducible exact over_self _ | with_reducible refine ex_undrew ?_ | with_reducible refine ex_into ?_ _ | with_reducible refine ex_alloc ?_ _ | with_reducible refine ex_drew ?_ | ((with_reducible refine ex_setCell ?_ ?_ _); rotate_left; (first | omega | (focus (simp; done)) | (focus (simp; omega)))) | ((with_reducible refine ex_chg ?_ _ ?_); rotate_left; (first | assumption | (exact Hid.out (by assumption)))) | exact ex_over)), rfl⟩
  obtain ⟨p1, p2, p3⟩ := rise_ok xs hx
  have HX := hid (fun W h => rising_any xs hx (by omega) a cap W h)
  generalize riseC xs = XS at *
  have hb := bitsZ_len p1 (by omega)
  have hk := knowZ p1 (by omega)
  have HO := hid (fun b d W h1 h2 => cof_good p1 (by omega) p2 b d W h1 h2)
  have HA := hid (fun b d W h1 h2 => all_good p1 (by omega) p2 b d W h1 h2)
  have HE := hid (fun b d W h1 h2 => ends_good p1 (by omega) p2 b d W h1 h2)
  have HS := hid (fun a c b d W h1 h2 => rcsame_any XS XS (by omega) a c b d W h1 h2)
  rw [decide_eq_true rfl] at HS
  have hul := endsK_len XS XS.length
  have hla : ∀ h : XS.length - 1 < (endsK XS XS.length).length, 0 < XS.length → (endsK XS XS.length)[XS.length - 1] = (bitsC En.zero XS).length := by
    intro h h0
    rw [endsK_at]
    congr 2
    rw [show XS.length - 1 + 1 = XS.length by omega, List.take_length]
  have hkn := hk.2.2
  have hle : decide (((bitsC En.zero XS).length : Int) ≤ 128 + 148 * (XS.length : Int)) = true := decide_eq_true (by omega)
  generalize endsK XS XS.length = US at *
  generalize bitsC En.zero XS = L at *
  generalize knowC En.zero XS = T at *
  obtain ⟨n0, n1, n2, ⟨n3, n4, n5, n6⟩⟩ := T
  simp only at hkn
  subst hkn
  clear p1 p2 hk
  by_cases h0 : XS.length = 0
  · have h0' : ((US.length : Int) == 0) = true := by rw [hul, h0]; rfl
    have huu : ((US.length : Int) == (XS.length : Int)) = true := by rw [hul]; simp
    have H0 := hid h0
    clear hla hul h0
    go_enter Tryd.func16, Tryd.ntmps16
    go_wp2_with (first
      | (go_at_call 24; (with_reducible refine (HK.out _ (by repeat (first | with_reducible exact hT | with_reducible refine TabW.over ?_ _ | with_reducible refine TabW.alloc ?_ _ | with_reducible refine TabW.drew ?_ | ((with_reducible refine TabW.setCell ?_ ?_ _); rotate_left; (first | (focus (simp; done)) | (focus (simp; omega)))) | ((with_reducible refine TabW.chg ?_ _ ?_); rotate_left; (first | assumption | (focus (simp; done)) | (focus (simp; omega)))) | exact hT))).mono ?_); rintro _ _ ⟨⟨e1, rfl⟩, rfl⟩)
      | ((go_at_call 25; (with_reducible refine (HX.out _ (by repeat (first | with_reducible exact hs | with_reducible refine Sl.over ?_ _ | with_reducible refine Sl.alloc ?_ _ | with_reducible refine Sl.drew ?_ | exact hs))).mono ?_); rintro _ _ ⟨⟨e2, rfl⟩, v2, rfl, o2⟩; obtain ⟨a2, c2, rfl, s2⟩ := Own.slice Sm.cs_len o2; clear o2))
      | (go_at_call 26; (with_reducible refine (HO.out _ _ _ (by repeat (first | with_reducible exact hT | with_reducible refine TabW.over ?_ _ | with_reducible refine TabW.alloc ?_ _ | with_reducible refine TabW.drew ?_ | ((with_reducible refine TabW.setCell ?_ ?_ _); rotate_left; (first | (focus (simp; done)) | (focus (simp; omega)))) | ((with_reducible refine TabW.chg ?_ _ ?_); rotate_left; (first | assumption | (focus (simp; done)) | (focus (simp; omega)))) | exact hT)) (by repeat (first | with_reducible exact s2 | with_reducible refine Sl.over ?_ _ | with_reducible refine Sl.alloc ?_ _ | with_reducible refine Sl.drew ?_ | exact s2))).mono ?_); rintro _ _ ⟨a4, c4, rfl, ⟨e4, rfl⟩, s4⟩)
      | (go_at_call 36; (with_reducible refine (HA.out _ _ _ (by repeat (first | with_reducible exact hT | with_reducible refine TabW.over ?_ _ | with_reducible refine TabW.alloc ?_ _ | with_reducible refine TabW.drew ?_ | ((with_reducible refine TabW.setCell ?_ ?_ _); rotate_left; (first | (focus (simp; done)) | (focus (simp; omega)))) | ((with_reducible refine TabW.chg ?_ _ ?_); rotate_left; (first | assumption | (focus (simp; done)) | (focus (simp; omega)))) | exact hT)) (by repeat (first | with_reducible exact s4 | with_reducible refine Sl.over ?_ _ | with_reducible refine Sl.alloc ?_ _ | with_reducible refine Sl.drew ?_ | exact s4))).mono ?_); rintro _ _ ⟨a5, c5, rfl, ⟨e5, rfl⟩, s5⟩)
      | (go_at_call 39; (with_reducible refine (HE.out _ _ _ (by repeat (first | with_reducible exact hT | with_reducible refine TabW.over ?_ _ | with_reducible refine TabW.alloc ?_ _ | with_reducible refine TabW.drew ?_ | ((with_reducible refine TabW.setCell ?_ ?_ _); rotate_left; (first | (focus (simp; done)) | (focus (simp; omega)))) | ((with_reducible refine TabW.chg ?_ _ ?_); rotate_left; (first | assumption | (focus (simp; done)) | (focus (simp; omega)))) | exact hT)) (by repeat (first | with_reducible exact s4 | with_reducible refine Sl.over ?_ _ | with_reducible refine Sl.alloc ?_ _ | with_reducible refine Sl.drew ?_ | exact s4))).mono ?_); rintro _ _ ⟨a6, c6, rfl, ⟨e6, rfl⟩, s6⟩))
    refine M2.wp_region_mix [13] 60 (by kernel_rfl) (by kernel_rfl) (by decide) ?_
    simp only [List.take_succ_cons, List.take_zero, List.drop_succ_cons, List.drop_zero]
    with_reducible refine M2.mixL_quiet 13 (by kernel_rfl) ?_
    simp only [List.take_succ_cons, List.take_zero, List.drop_succ_cons, List.drop_zero]
    repeat (go_big_quiet_step (fail))
    with_reducible refine wpQuiet_nil ?_
    with_reducible refine M2.mixL_eff (by decide) ?_
    go_wp2_with ((go_at_call 27; (with_reducible refine (HS.out _ _ _ _ _ (by repeat (first | with_reducible exact s2 | with_reducible refine Sl.over ?_ _ | with_reducible refine Sl.alloc ?_ _ | with_reducible refine Sl.drew ?_ | exact s2)) (by repeat (first | with_reducible exact s5 | with_reducible refine Sl.over ?_ _ | with_reducible refine Sl.alloc ?_ _ | with_reducible refine Sl.drew ?_ | exact s5))).mono ?_); rintro _ _ ⟨⟨e9, rfl⟩, rfl⟩))
    refine M2.MixQ.mk (by (try unfold Ov); repeat (first | with_reducible exact ex_over | with_reducible exact over_self _ | with_reducible refine ex_undrew ?_ | with_reducible refine ex_into ?_ _ | with_reducible refine ex_alloc ?_ _ | with_reducible refine ex_drew ?_ | ((with_reducible refine ex_setCell ?_ ?_ _); rotate_left; (first | omega | (focus (simp; done)) | (focus (simp; omega)))) | ((with_reducible refine ex_chg ?_ _ ?_); rotate_left; (first | assumption | (exact Hid.out (by assumption)))) | exact ex_over)) ?_
    with_reducible refine M2.mixL_quiet 46 (by kernel_rfl) ?_
    simp only [List.take_succ_cons, List.take_zero, List.drop_succ_cons, List.drop_zero]
    repeat (go_big_quiet_step (fail))
    with_reducible refine wpQuiet_nil ?_
    with_reducible refine M2.mixL_nil ?_
    with_reducible refine M2.mixL_nil ?_
    go_wp2_with fail
    go_ret
    exact ⟨(by (try unfold Ov); repeat (first | with_reducible exact ex_over | with_reducible exact over_self _ | with_reducible refine ex_undrew ?_ | with_reducible refine ex_into ?_ _ | with_reducible refine ex_alloc ?_ _ | with_reducible refine ex_drew ?_ | ((with_reducible refine ex_setCell ?_ ?_ _); rotate_left; (first | omega | (focus (simp; done)) | (focus (simp; omega)))) | ((with_reducible refine ex_chg ?_ _ ?_); rotate_left; (first | assumption | (exact Hid.out (by assumption)))) | exact ex_over)), rfl⟩
  · have h0' : ((US.length : Int) == 0) = false := by rw [beq_eq_false_iff_ne]; omega
    have huu : ((US.length : Int) == (XS.length : Int)) = true := by rw [hul]; simp
    have hlu : US.length - 1 < US.length := by omega
    have hla' : US[US.length - 1] = L.length := by
      have h := hla (by omega) (by omega)
      rw [← h]; congr 1; omega
    have hidx : ((US.length : Int) - 1) = ((US.length - 1 : Nat) : Int) := by omega
    have hu40 : US.length ≤ 40 := by omega
    clear hla hul
    go_enter Tryd.func16, Tryd.ntmps16
    go_wp2_with (first
      | (go_at_call 24; (with_reducible refine (HK.out _ (by repeat (first | with_reducible exact hT | with_reducible refine TabW.over ?_ _ | with_reducible refine TabW.alloc ?_ _ | with_reducible refine TabW.drew ?_ | ((with_reducible refine TabW.setCell ?_ ?_ _); rotate_left; (first | (focus (simp; done)) | (focus (simp; omega)))) | ((with_reducible refine TabW.chg ?_ _ ?_); rotate_left; (first | assumption | (focus (simp; done)) | (focus (simp; omega)))) | exact hT))).mono ?_); rintro _ _ ⟨⟨e1, rfl⟩, rfl⟩)
      | ((go_at_call 25; (with_reducible refine (HX.out _ (by repeat (first | with_reducible exact hs | with_reducible refine Sl.over ?_ _ | with_reducible refine Sl.alloc ?_ _ | with_reducible refine Sl.drew ?_ | exact hs))).mono ?_); rintro _ _ ⟨⟨e2, rfl⟩, v2, rfl, o2⟩; obtain ⟨a2, c2, rfl, s2⟩ := Own.slice Sm.cs_len o2; clear o2))
      | (go_at_call 26; (with_reducible refine (HO.out _ _ _ (by repeat (first | with_reducible exact hT | with_reducible refine TabW.over ?_ _ | with_reducible refine TabW.alloc ?_ _ | with_reducible refine TabW.drew ?_ | ((with_reducible refine TabW.setCell ?_ ?_ _); rotate_left; (first | (focus (simp; done)) | (focus (simp; omega)))) | ((with_reducible refine TabW.chg ?_ _ ?_); rotate_left; (first | assumption | (focus (simp; done)) | (focus (simp; omega)))) | exact hT)) (by repeat (first | with_reducible exact s2 | with_reducible refine Sl.over ?_ _ | with_reducible refine Sl.alloc ?_ _ | with_reducible refine Sl.drew ?_ | exact s2))).mono ?_); rintro _ _ ⟨a4, c4, rfl, ⟨e4, rfl⟩, s4⟩)
      | (go_at_call 36; (with_reducible refine (HA.out _ _ _ (by repeat (first | with_reducible exact hT | with_reducible refine TabW.over ?_ _ | with_reducible refine TabW.alloc ?_ _ | with_reducible refine TabW.drew ?_ | ((with_reducible refine TabW.setCell ?_ ?_ _); rotate_left; (first | (focus (simp; done)) | (focus (simp; omega)))) | ((with_reducible refine TabW.chg ?_ _ ?_); rotate_left; (first | assumption | (focus (simp; done)) | (focus (simp; omega)))) | exact hT)) (by repeat (first | with_reducible exact s4 | with_reducible refine Sl.over ?_ _ | with_reducible refine Sl.alloc ?_ _ | with_reducible refine Sl.drew ?_ | exact s4))).mono ?_); rintro _ _ ⟨a5, c5, rfl, ⟨e5, rfl⟩, s5⟩)
      | (go_at_call 39; (with_reducible refine (HE.out _ _ _ (by repeat (first | with_reducible exact hT | with_reducible refine TabW.over ?_ _ | with_reducible refine TabW.alloc ?_ _ | with_reducible refine TabW.drew ?_ | ((with_reducible refine TabW.setCell ?_ ?_ _); rotate_left; (first | (focus (simp; done)) | (focus (simp; omega)))) | ((with_reducible refine TabW.chg ?_ _ ?_); rotate_left; (first | assumption | (focus (simp; done)) | (focus (simp; omega)))) | exact hT)) (by repeat (first | with_reducible exact s4 | with_reducible refine Sl.over ?_ _ | with_reducible refine Sl.alloc ?_ _ | with_reducible refine Sl.drew ?_ | exact s4))).mono ?_); rintro _ _ ⟨a6, c6, rfl, ⟨e6, rfl⟩, s6⟩))
    obtain ⟨b7, o7, rfl, hb7, k0⟩ := SlI.at_ s6 hlu
    rw [hla'] at k0
    have hb7' := hb7
    simp only [go_sem, size_over, World.size_alloc] at hb7'
    refine M2.wp_region_mix [13] 60 (by kernel_rfl) (by kernel_rfl) (by decide) ?_
    simp only [List.take_succ_cons, List.take_zero, List.drop_succ_cons, List.drop_zero]
    with_reducible refine M2.mixL_quiet 13 (by kernel_rfl) ?_
    simp only [List.take_succ_cons, List.take_zero, List.drop_succ_cons, List.drop_zero]
    repeat (go_big_quiet_step (fail))
    with_reducible refine wpQuiet_nil ?_
    with_reducible refine M2.mixL_eff (by decide) ?_
    go_wp2_with ((go_at_call 27; (with_reducible refine (HS.out _ _ _ _ _ (by repeat (first | with_reducible exact s2 | with_reducible refine Sl.over ?_ _ | with_reducible refine Sl.alloc ?_ _ | with_reducible refine Sl.drew ?_ | exact s2)) (by repeat (first | with_reducible exact s5 | with_reducible refine Sl.over ?_ _ | with_reducible refine Sl.alloc ?_ _ | with_reducible refine Sl.drew ?_ | exact s5))).mono ?_); rintro _ _ ⟨⟨e9, rfl⟩, rfl⟩))
    refine M2.MixQ.mk (by (try unfold Ov); repeat (first | with_reducible exact ex_over | with_reducible exact over_self _ | with_reducible refine ex_undrew ?_ | with_reducible refine ex_into ?_ _ | with_reducible refine ex_alloc ?_ _ | with_reducible refine ex_drew ?_ | ((with_reducible refine ex_setCell ?_ ?_ _); rotate_left; (first | omega | (focus (simp; done)) | (focus (simp; omega)))) | ((with_reducible refine ex_chg ?_ _ ?_); rotate_left; (first | assumption | (exact Hid.out (by assumption)))) | exact ex_over)) ?_
    with_reducible refine M2.mixL_quiet 46 (by kernel_rfl) ?_
    simp only [List.take_succ_cons, List.take_zero, List.drop_succ_cons, List.drop_zero]
    repeat (go_big_quiet_step (fail))
    with_reducible refine wpQuiet_nil ?_
    with_reducible refine M2.mixL_nil ?_
    with_reducible refine M2.mixL_nil ?_
    go_wp2_with fail
    go_ret
    exact ⟨(by (try unfold Ov); repeat (first | with_reducible exact ex_over | with_reducible exact over_self _ | with_reducible refine ex_undrew ?_ | with_reducible refine ex_into ?_ _ | with_reducible refine ex_alloc ?_ _ | with_reducible refine ex_drew ?_ | ((with_reducible refine ex_setCell ?_ ?_ _); rotate_left; (first | omega | (focus (simp; done)) | (focus (simp; omega)))) | ((with_reducible refine ex_chg ?_ _ ?_); rotate_left; (first | assumption | (exact Hid.out (by assumption)))) | exact ex_over)), rfl⟩
end Go.Proofs.YthljlajdkdgieaaDoor
