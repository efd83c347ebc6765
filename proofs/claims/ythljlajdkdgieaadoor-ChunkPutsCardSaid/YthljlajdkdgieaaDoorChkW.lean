/- Walks: chunk's sound, wrong; the document's Sound. -/
import Derived.Test.YthljlajdkdgieaaDoorChkP
import Derived.Test.YthljlajdkdgieaaDoorXorV
namespace Go.Proofs.YthljlajdkdgieaaDoor
set_option linter.unusedVariables false
set_option linter.unusedSimpArgs false
open Go.RowKit
attribute [local go_sem] over_drew

abbrev En.v (e : En) : Value := .agg #[.int .i64 e.n, .int .i64 e.last, .int .i64 e.delta, .bool e.val.has, .int .u64 (e.val.prev : Nat), .int .u8 (e.val.lead : Nat), .int .u8 (e.val.width : Nat)]

set_option maxRecDepth 100000 in
set_option maxHeartbeats 2000000 in
theorem csound_any (e : En) (he : e.wf) (w : World) : Calls Tryd.prog 76 #[e.v] w (Ret w (.bool (soundE e))) := by
  obtain ⟨n, last, delta, val⟩ := e
  obtain ⟨⟨h1, h1'⟩, ⟨h2, h2'⟩, ⟨h3, h3'⟩, hv⟩ := he
  simp only at h1 h1' h2 h2' h3 h3' hv
  have HV := hid (fun W => xsound_any val hv W)
  by_cases hn : n < 0
  · have HE := hid (show soundE ⟨n, last, delta, val⟩ = false by unfold soundE; rw [if_pos hn])
    rw [HE.out]
    go_enter Tryd.func76, Tryd.ntmps76
    go_wp2
    go_ret
    exact ⟨(by (try unfold Ov); repeat (first | with_reducible exact ex_over | with_reducible exact over_self _ | with_reducible refine ex_undrew ?_ | with_reducible refine ex_into ?_ _ | with_reducible refine ex_alloc ?_ _ | with_reducible refine ex_drew ?_ | ((with_reducible refine ex_setCell ?_ ?_ _); rotate_left; (first | omega | (focus (simp; done)) | (focus (simp; omega)))) | ((with_reducible refine ex_chg ?_ _ ?_); rotate_left; (first | assumption | (exact Hid.out (by assumption)))) | exact ex_over)), rfl⟩
  · by_cases h0 : n = 0
    · subst h0
      obtain ⟨has, prev, lead, width⟩ := val
      obtain ⟨hv1, hv2, hv3⟩ := hv
      simp only at hv1 hv2 hv3
      cases has
      all_goals
        go_enter Tryd.func76, Tryd.ntmps76
        go_wp2
        all_goals (go_ret; refine ⟨(by (try unfold Ov); repeat (first | with_reducible exact ex_over | with_reducible exact over_self _ | with_reducible refine ex_undrew ?_ | with_reducible refine ex_into ?_ _ | with_reducible refine ex_alloc ?_ _ | with_reducible refine ex_drew ?_ | ((with_reducible refine ex_setCell ?_ ?_ _); rotate_left; (first | omega | (focus (simp; done)) | (focus (simp; omega)))) | ((with_reducible refine ex_chg ?_ _ ?_); rotate_left; (first | assumption | (exact Hid.out (by assumption)))) | exact ex_over)), ret_bool ?_⟩)
        all_goals (rw [Bool.eq_iff_iff]; simp [soundE, En.zero, Vl.zero]; try first | omega | (simp_all; done) | (simp_all; omega))
    · have h0' : (n == 0) = false := by simp; exact h0
      obtain ⟨has, prev, lead, width⟩ := val
      have HE := hid (show soundE ⟨n, last, delta, ⟨has, prev, lead, width⟩⟩ = (has && soundV ⟨has, prev, lead, width⟩) by unfold soundE; rw [if_neg hn, if_neg h0])
      rw [HE.out]
      clear HE
      obtain ⟨hv1, hv2, hv3⟩ := hv
      simp only at hv1 hv2 hv3
      cases has
      all_goals
        generalize hs : soundV _ = sv at *
        clear hs
        cases sv
        all_goals
          go_enter Tryd.func76, Tryd.ntmps76
          go_wp2_with (go_at_call 19; (with_reducible refine (HV.out _).mono ?_); rintro _ _ ⟨⟨e1, rfl⟩, rfl⟩)
          go_ret
          exact ⟨(by (try unfold Ov); repeat (first | with_reducible exact ex_over | with_reducible exact over_self _ | with_reducible refine ex_undrew ?_ | with_reducible refine ex_into ?_ _ | with_reducible refine ex_alloc ?_ _ | with_reducible refine ex_drew ?_ | ((with_reducible refine ex_setCell ?_ ?_ _); rotate_left; (first | omega | (focus (simp; done)) | (focus (simp; omega)))) | ((with_reducible refine ex_chg ?_ _ ?_); rotate_left; (first | assumption | (exact Hid.out (by assumption)))) | exact ex_over)), rfl⟩
set_option maxRecDepth 100000 in
set_option maxHeartbeats 2000000 in
theorem rcsound_any (e : En) (he : e.wf) (w : World) : Calls Tryd.prog 52 #[e.v] w (Ret w (.bool (soundE e))) := by
  obtain ⟨n, last, delta, val⟩ := e
  obtain ⟨⟨h1, h1'⟩, ⟨h2, h2'⟩, ⟨h3, h3'⟩, hv⟩ := he
  simp only at h1 h1' h2 h2' h3 h3' hv
  have HV := hid (fun W => rxsound_any val hv W)
  by_cases hn : n < 0
  · have HE := hid (show soundE ⟨n, last, delta, val⟩ = false by unfold soundE; rw [if_pos hn])
    rw [HE.out]
    go_enter Tryd.func52, Tryd.ntmps52
    go_wp2
    go_ret
    exact ⟨(by (try unfold Ov); repeat (first | with_reducible exact ex_over | with_reducible exact over_self _ | with_reducible refine ex_undrew ?_ | with_reducible refine ex_into ?_ _ | with_reducible refine ex_alloc ?_ _ | with_reducible refine ex_drew ?_ | ((with_reducible refine ex_setCell ?_ ?_ _); rotate_left; (first | omega | (focus (simp; done)) | (focus (simp; omega)))) | ((with_reducible refine ex_chg ?_ _ ?_); rotate_left; (first | assumption | (exact Hid.out (by assumption)))) | exact ex_over)), rfl⟩
  · by_cases h0 : n = 0
    · subst h0
      obtain ⟨has, prev, lead, width⟩ := val
      obtain ⟨hv1, hv2, hv3⟩ := hv
      simp only at hv1 hv2 hv3
      cases has
      all_goals
        go_enter Tryd.func52, Tryd.ntmps52
        go_wp2
        all_goals (go_ret; refine ⟨(by (try unfold Ov); repeat (first | with_reducible exact ex_over | with_reducible exact over_self _ | with_reducible refine ex_undrew ?_ | with_reducible refine ex_into ?_ _ | with_reducible refine ex_alloc ?_ _ | with_reducible refine ex_drew ?_ | ((with_reducible refine ex_setCell ?_ ?_ _); rotate_left; (first | omega | (focus (simp; done)) | (focus (simp; omega)))) | ((with_reducible refine ex_chg ?_ _ ?_); rotate_left; (first | assumption | (exact Hid.out (by assumption)))) | exact ex_over)), ret_bool ?_⟩)
        all_goals (rw [Bool.eq_iff_iff]; simp [soundE, En.zero, Vl.zero]; try first | omega | (simp_all; done) | (simp_all; omega))
    · have h0' : (n == 0) = false := by simp; exact h0
      obtain ⟨has, prev, lead, width⟩ := val
      have HE := hid (show soundE ⟨n, last, delta, ⟨has, prev, lead, width⟩⟩ = (has && soundV ⟨has, prev, lead, width⟩) by unfold soundE; rw [if_neg hn, if_neg h0])
      rw [HE.out]
      clear HE
      obtain ⟨hv1, hv2, hv3⟩ := hv
      simp only at hv1 hv2 hv3
      cases has
      all_goals
        generalize hs : soundV _ = sv at *
        clear hs
        cases sv
        all_goals
          go_enter Tryd.func52, Tryd.ntmps52
          go_wp2_with (go_at_call 20; (with_reducible refine (HV.out _).mono ?_); rintro _ _ ⟨⟨e1, rfl⟩, rfl⟩)
          go_ret
          exact ⟨(by (try unfold Ov); repeat (first | with_reducible exact ex_over | with_reducible exact over_self _ | with_reducible refine ex_undrew ?_ | with_reducible refine ex_into ?_ _ | with_reducible refine ex_alloc ?_ _ | with_reducible refine ex_drew ?_ | ((with_reducible refine ex_setCell ?_ ?_ _); rotate_left; (first | omega | (focus (simp; done)) | (focus (simp; omega)))) | ((with_reducible refine ex_chg ?_ _ ?_); rotate_left; (first | assumption | (exact Hid.out (by assumption)))) | exact ex_over)), rfl⟩

def wrongC (snd se : Bool) : Nat := if snd then if se then 0 else 61 else 11
set_option maxRecDepth 100000 in
set_option maxHeartbeats 1000000 in
theorem cwrong_any (bs : List Nat) (hbs : ∀ b ∈ bs, b < 256) (hl : bs.length ≤ 1000000) (N : Int) (hN : -9223372036854775808 ≤ N ∧ N ≤ 9223372036854775807) (a : Option Addr) (cap : Nat) (e : En) (he : e.wf) (w : World) (hb : SlB w a cap bs) :
    Calls Tryd.prog 50 #[bv a bs.length cap N, e.v] w (Ret w (.int .u16 (wrongC (soundB bs N) (soundE e) : Nat))) := by
  have H1 := hid (fun W hW => sound_any bs hbs hl N hN a cap W hW)
  have H2 := hid (fun W => csound_any e he W)
  cases g1 : soundB bs N
  · rw [g1] at H1
    go_enter Tryd.func50, Tryd.ntmps50
    go_wp2_with (first | (go_at_call 37; (with_reducible refine (H1.out _ (by repeat (first | with_reducible exact hb | with_reducible refine Sl.over ?_ _ | with_reducible refine Sl.alloc ?_ _ | with_reducible refine Sl.drew ?_ | exact hb))).mono ?_); rintro _ _ ⟨⟨e1, rfl⟩, rfl⟩) | (go_at_call 76; (with_reducible refine (H2.out _).mono ?_); rintro _ _ ⟨⟨e2, rfl⟩, rfl⟩))
    go_ret
    exact ⟨(by (try unfold Ov); repeat (first | with_reducible exact ex_over | with_reducible exact over_self _ | with_reducible refine ex_undrew ?_ | with_reducible refine ex_into ?_ _ | with_reducible refine ex_alloc ?_ _ | with_reducible refine ex_drew ?_ | ((with_reducible refine ex_setCell ?_ ?_ _); rotate_left; (first | omega | (focus (simp; done)) | (focus (simp; omega)))) | ((with_reducible refine ex_chg ?_ _ ?_); rotate_left; (first | assumption | (exact Hid.out (by assumption)))) | exact ex_over)), rfl⟩
  · rw [g1] at H1
    cases g2 : soundE e
    · rw [g2] at H2
      go_enter Tryd.func50, Tryd.ntmps50
      go_wp2_with (first | (go_at_call 37; (with_reducible refine (H1.out _ (by repeat (first | with_reducible exact hb | with_reducible refine Sl.over ?_ _ | with_reducible refine Sl.alloc ?_ _ | with_reducible refine Sl.drew ?_ | exact hb))).mono ?_); rintro _ _ ⟨⟨e1, rfl⟩, rfl⟩) | (go_at_call 76; (with_reducible refine (H2.out _).mono ?_); rintro _ _ ⟨⟨e2, rfl⟩, rfl⟩))
      go_ret
      exact ⟨(by (try unfold Ov); repeat (first | with_reducible exact ex_over | with_reducible exact over_self _ | with_reducible refine ex_undrew ?_ | with_reducible refine ex_into ?_ _ | with_reducible refine ex_alloc ?_ _ | with_reducible refine ex_drew ?_ | ((with_reducible refine ex_setCell ?_ ?_ _); rotate_left; (first | omega | (focus (simp; done)) | (focus (simp; omega)))) | ((with_reducible refine ex_chg ?_ _ ?_); rotate_left; (first | assumption | (exact Hid.out (by assumption)))) | exact ex_over)), rfl⟩
    · rw [g2] at H2
      go_enter Tryd.func50, Tryd.ntmps50
      go_wp2_with (first | (go_at_call 37; (with_reducible refine (H1.out _ (by repeat (first | with_reducible exact hb | with_reducible refine Sl.over ?_ _ | with_reducible refine Sl.alloc ?_ _ | with_reducible refine Sl.drew ?_ | exact hb))).mono ?_); rintro _ _ ⟨⟨e1, rfl⟩, rfl⟩) | (go_at_call 76; (with_reducible refine (H2.out _).mono ?_); rintro _ _ ⟨⟨e2, rfl⟩, rfl⟩))
      go_ret
      exact ⟨(by (try unfold Ov); repeat (first | with_reducible exact ex_over | with_reducible exact over_self _ | with_reducible refine ex_undrew ?_ | with_reducible refine ex_into ?_ _ | with_reducible refine ex_alloc ?_ _ | with_reducible refine ex_drew ?_ | ((with_reducible refine ex_setCell ?_ ?_ _); rotate_left; (first | omega | (focus (simp; done)) | (focus (simp; omega)))) | ((with_reducible refine ex_chg ?_ _ ?_); rotate_left; (first | assumption | (exact Hid.out (by assumption)))) | exact ex_over)), rfl⟩
end Go.Proofs.YthljlajdkdgieaaDoor
