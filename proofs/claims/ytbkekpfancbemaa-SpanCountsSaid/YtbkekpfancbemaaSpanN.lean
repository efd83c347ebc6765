/- Walks: span.Meet and the reference's. -/
import Derived.Test.YtbkekpfancbemaaSpanM
import Derived.Test.YtbkekpfancbemaaMix
import Derived.WalkMore
namespace Go.Proofs.Ytbkekpfancbemaa
set_option linter.unusedVariables false
set_option linter.unusedSimpArgs false
open Go.RowKit

theorem SlS.head {w : World} {a : Option Addr} {cap : Nat} {xs : List Sp} (h : SlS w a cap xs) (hk : 0 < xs.length) :
    ∃ b off, a = some ⟨b, off, none⟩ ∧ b < w.heap.size ∧ w.cell? ⟨b, off, none⟩ = some (.int .i64 xs[0].f) ∧ w.cell? ⟨b, off + 1, none⟩ = some (.int .i64 xs[0].t) := by
  obtain ⟨b, off, h1, h2, h3, h4⟩ := h.at_ hk
  exact ⟨b, off, h1, h2, by simpa using h3, by simpa using h4⟩

def MeetRes (k : IntKind) (xs ys : List Sp) (w : World) (en : Ending) (w' : World) : Prop := SpRes k (okN (soundB xs && soundB ys)) (meetS xs ys) w en w'
theorem MeetRes.bad {k : IntKind} {w w' : World} {xs ys : List Sp} (h : (soundB xs && soundB ys) = false) (ho : ∃ e, w' = over w e) : MeetRes k xs ys w (.returned (.tuple #[.slice none 0 0, .int k 1])) w' := by
  refine ⟨ho, .slice none 0 0, by simp [h, okN], ?_⟩
  simp only [meetS, h]
  exact Own.nil w'

set_option maxRecDepth 100000 in
set_option maxHeartbeats 4000000 in
theorem meet_any (xs ys : List Sp) (hwf : ∀ x ∈ xs, x.wf) (hwf' : ∀ x ∈ ys, x.wf) (a b : Option Addr) (cap cap' : Nat) (w : World) (hs : SlS w a cap xs) (hs' : SlS w b cap' ys) (hb : xs.length ≤ 100000) (hb' : ys.length ≤ 100000) :
    Calls Try.prog 44 #[.slice a xs.length cap, .slice b ys.length cap'] w (MeetRes .u16 xs ys w) := by
  have hmax := len_max hs
  have hmax' := len_max hs'
  cases h1 : soundB xs
  · have HS := hid (fun W h => h1 ▸ sound_any xs hwf a cap W h)
    have H1 := hid h1
    clear h1
    go_enter Try.func44, Try.ntmps44
    go_wp2_with (first | go_step3 | (go_at_call 40; refine (HS.out _ hs).mono ?_; rintro _ _ ⟨⟨e, rfl⟩, rfl⟩))
    (try rw [Exit.noGoto_ret]); go_ret2
    exact MeetRes.bad (by rw [H1.out]; rfl) (by (try unfold Ov); repeat (first | with_reducible exact ex_over | with_reducible exact over_self _ | with_reducible refine ex_into ?_ _ | with_reducible refine ex_alloc ?_ _ | with_reducible refine ex_drew ?_ | ((with_reducible refine ex_setCell ?_ ?_ _); rotate_left; (first | omega | (simp; done) | (simp; omega))) | exact ex_over))
  · have HS := hid (fun W h => h1 ▸ sound_any xs hwf a cap W h)
    have H1 := hid h1
    clear h1
    cases h2 : soundB ys
    · have HT := hid (fun W h => h2 ▸ sound_any ys hwf' b cap' W h)
      have H2 := hid h2
      clear h2
      go_enter Try.func44, Try.ntmps44
      go_wp2_with (first | go_step3 | (go_at_call 40; (with_reducible refine (HS.out _ hs).mono ?_); rintro _ _ ⟨⟨e, rfl⟩, rfl⟩) | (go_at_call 40; (with_reducible refine (HT.out _ (hs'.over _)).mono ?_); rintro _ _ ⟨⟨e2, rfl⟩, rfl⟩))
      (try rw [Exit.noGoto_ret]); go_ret2
      exact MeetRes.bad (by rw [H2.out]; simp) (by (try unfold Ov); repeat (first | with_reducible exact ex_over | with_reducible exact over_self _ | with_reducible refine ex_into ?_ _ | with_reducible refine ex_alloc ?_ _ | with_reducible refine ex_drew ?_ | ((with_reducible refine ex_setCell ?_ ?_ _); rotate_left; (first | omega | (simp; done) | (simp; omega))) | exact ex_over))
    · have HT := hid (fun W h => h2 ▸ sound_any ys hwf' b cap' W h)
      have H2 := hid h2
      clear h2
      go_enter Try.func44, Try.ntmps44
      go_wp2_with (first | go_step3 | (go_at_call 40; (with_reducible refine (HS.out _ hs).mono ?_); rintro _ _ ⟨⟨e, rfl⟩, rfl⟩) | (go_at_call 40; (with_reducible refine (HT.out _ (hs'.over _)).mono ?_); rintro _ _ ⟨⟨e2, rfl⟩, rfl⟩))
      go_loopw [0, 1, 6] (fun va vb out wr => ∃ (ps qs zs : List Sp) (a' b' : Option Addr) (c c' : Nat), va = .slice a' ps.length c ∧ vb = .slice b' qs.length c' ∧ SlS w a' c ps ∧ SlS w b' c' qs ∧ Ov w wr ∧ OwnS w.heap.size wr out zs ∧ zs.length + ps.length + qs.length ≤ 300000 ∧ Hid (meetGo (ps.length + qs.length) ps qs zs = meetGo (xs.length + ys.length) xs ys [])) (fun va vb _ _ => lenOf va + lenOf vb)
      case atStart => exact ⟨xs, ys, [], a, b, cap, cap', rfl, rfl, hs, hs', (by (try unfold Ov); repeat (first | with_reducible exact ex_over | with_reducible exact over_self _ | with_reducible refine ex_into ?_ _ | with_reducible refine ex_alloc ?_ _ | with_reducible refine ex_drew ?_ | ((with_reducible refine ex_setCell ?_ ?_ _); rotate_left; (first | omega | (simp; done) | (simp; omega))) | exact ex_over)), Own.nil _, by simp; omega, hid rfl⟩
      case round =>
        obtain ⟨ps, qs, zs, a', b', c, c', rfl, rfl, hp, hq, ⟨e, rfl⟩, hown, hlen, hgo⟩ := hrel
        clear hs hs' HS HT
        have m1 := len_max hp
        have m2 := len_max hq
        by_cases hp0 : 0 < ps.length
        · by_cases hq0 : 0 < qs.length
          · obtain ⟨a2, c2, q2, hp2⟩ := run_tail span_elem hp hp0
            obtain ⟨b2, d2, q3, hq2⟩ := run_tail span_elem hq hq0
            obtain ⟨b1, o1, rfl, hb1, x0, x1⟩ := SlS.head hp hp0
            obtain ⟨b2', o2, rfl, hb2, y0, y1⟩ := SlS.head hq hq0
            obtain ⟨pt, hpt⟩ : ∃ pt, pt = ps.drop 1 := ⟨_, rfl⟩
            obtain ⟨qt, hqt⟩ : ∃ qt, qt = qs.drop 1 := ⟨_, rfl⟩
            rw [← hpt] at q2 hp2
            rw [← hqt] at q3 hq2
            have lp : pt.length + 1 ≤ ps.length ∧ ps.length ≤ pt.length + 1 := by rw [hpt, List.length_drop]; omega
            have lq : qt.length + 1 ≤ qs.length ∧ qs.length ≤ qt.length + 1 := by rw [hqt, List.length_drop]; omega
            have Hpt := hid hpt
            have Hqt := hid hqt
            clear hpt hqt
            obtain ⟨M, hM⟩ : ∃ M, M = meet2 ps[0] qs[0] := ⟨_, rfl⟩
            have e1 : (if ps[0].f < qs[0].f then qs[0].f else ps[0].f) = M.f := by rw [hM]; rfl
            have e2 : (if qs[0].t < ps[0].t then qs[0].t else ps[0].t) = M.t := by rw [hM]; rfl
            have HM := hid hM
            clear hM
            cases h3 : decide (M.f ≤ M.t)
            · have H3 := hid (show meetPut ps[0] qs[0] zs = zs from meetPut_no (by rw [← HM.out]; exact h3))
              cases h4 : decide (ps[0].t < qs[0].t)
              · have H4 := hid h4
                go_wp2_with fail
                refine wp_region_mix [19, 20] (by kernel_rfl) (by kernel_rfl) ?_
                refine mixL_quiet 19 (by kernel_rfl) ?_
                simp only [List.take_succ_cons, List.take_zero, List.drop_succ_cons, List.drop_zero]
                repeat (go_big_quiet_step (fail))
                refine wpQuiet_nil ?_
                refine mixL_eff rfl ?_
                go_wp2_with (fail)
                refine MixQ.mk (by (try unfold Ov); repeat (first | with_reducible exact ex_over | with_reducible exact over_self _ | with_reducible refine ex_into ?_ _ | with_reducible refine ex_alloc ?_ _ | with_reducible refine ex_drew ?_ | ((with_reducible refine ex_setCell ?_ ?_ _); rotate_left; (first | omega | (simp; done) | (simp; omega))) | exact ex_over)) ?_
                refine mixL_eff rfl ?_
                go_wp2_with (fail)
                refine MixQ.mk (by (try unfold Ov); repeat (first | with_reducible exact ex_over | with_reducible exact over_self _ | with_reducible refine ex_into ?_ _ | with_reducible refine ex_alloc ?_ _ | with_reducible refine ex_drew ?_ | ((with_reducible refine ex_setCell ?_ ?_ _); rotate_left; (first | omega | (simp; done) | (simp; omega))) | exact ex_over)) ?_
                refine mixL_nil ?_
                go_wp2_with fail
                refine wp_region_over (by kernel_rfl) (by kernel_rfl) ?_
                repeat (go_big_quiet_step (fail))
                refine wpQuiet_nil ?_
                intro _ hw'
                obtain ⟨nq, rfl⟩ := hw'
                go_wp2_with fail
                go_roundw
                case rel => exact ⟨ps, qt, zs, some ⟨b1, o1, none⟩, b2, c, d2, rfl, rfl, hp, hq2, (by (try unfold Ov); repeat (first | with_reducible exact ex_over | with_reducible exact over_self _ | with_reducible refine ex_into ?_ _ | with_reducible refine ex_alloc ?_ _ | with_reducible refine ex_drew ?_ | ((with_reducible refine ex_setCell ?_ ?_ _); rotate_left; (first | omega | (simp; done) | (simp; omega))) | exact ex_over)), (by repeat (first | with_reducible exact hown | with_reducible refine Own.over ?_ _ | with_reducible refine Own.alloc ?_ _ | with_reducible refine Own.drew ?_ | exact hown)), by omega, hid (by rw [← hgo.out, meetGo_b hp0 hq0 H4.out, H3.out, ← Hqt.out])⟩
                case measure => simp [lenOf]; omega
              · have H4 := hid h4
                go_wp2_with fail
                refine wp_region_mix [19, 20] (by kernel_rfl) (by kernel_rfl) ?_
                refine mixL_quiet 19 (by kernel_rfl) ?_
                simp only [List.take_succ_cons, List.take_zero, List.drop_succ_cons, List.drop_zero]
                repeat (go_big_quiet_step (fail))
                refine wpQuiet_nil ?_
                refine mixL_eff rfl ?_
                go_wp2_with (fail)
                refine MixQ.mk (by (try unfold Ov); repeat (first | with_reducible exact ex_over | with_reducible exact over_self _ | with_reducible refine ex_into ?_ _ | with_reducible refine ex_alloc ?_ _ | with_reducible refine ex_drew ?_ | ((with_reducible refine ex_setCell ?_ ?_ _); rotate_left; (first | omega | (simp; done) | (simp; omega))) | exact ex_over)) ?_
                refine mixL_eff rfl ?_
                go_wp2_with (fail)
                refine MixQ.mk (by (try unfold Ov); repeat (first | with_reducible exact ex_over | with_reducible exact over_self _ | with_reducible refine ex_into ?_ _ | with_reducible refine ex_alloc ?_ _ | with_reducible refine ex_drew ?_ | ((with_reducible refine ex_setCell ?_ ?_ _); rotate_left; (first | omega | (simp; done) | (simp; omega))) | exact ex_over)) ?_
                refine mixL_nil ?_
                go_wp2_with fail
                refine wp_region_over (by kernel_rfl) (by kernel_rfl) ?_
                repeat (go_big_quiet_step (fail))
                refine wpQuiet_nil ?_
                intro _ hw'
                obtain ⟨nq, rfl⟩ := hw'
                go_wp2_with fail
                go_roundw
                case rel => exact ⟨pt, qs, zs, a2, some ⟨b2', o2, none⟩, c2, c', rfl, rfl, hp2, hq, (by (try unfold Ov); repeat (first | with_reducible exact ex_over | with_reducible exact over_self _ | with_reducible refine ex_into ?_ _ | with_reducible refine ex_alloc ?_ _ | with_reducible refine ex_drew ?_ | ((with_reducible refine ex_setCell ?_ ?_ _); rotate_left; (first | omega | (simp; done) | (simp; omega))) | exact ex_over)), (by repeat (first | with_reducible exact hown | with_reducible refine Own.over ?_ _ | with_reducible refine Own.alloc ?_ _ | with_reducible refine Own.drew ?_ | exact hown)), by omega, hid (by rw [← hgo.out, meetGo_a hp0 hq0 H4.out, H3.out, ← Hpt.out])⟩
                case measure => simp [lenOf]; omega
            · have H3 := hid (show meetPut ps[0] qs[0] zs = zs ++ [M] from by rw [HM.out]; exact meetPut_yes (by rw [← HM.out]; exact h3))
              cases h4 : decide (ps[0].t < qs[0].t)
              · have H4 := hid h4
                go_wp2_with fail
                refine wp_region_mix [19, 20] (by kernel_rfl) (by kernel_rfl) ?_
                refine mixL_quiet 19 (by kernel_rfl) ?_
                simp only [List.take_succ_cons, List.take_zero, List.drop_succ_cons, List.drop_zero]
                repeat (go_big_quiet_step (fail))
                refine wpQuiet_nil ?_
                refine mixL_eff rfl ?_
                go_wp2_with (fail)
                refine MixQ.mk (by (try unfold Ov); repeat (first | with_reducible exact ex_over | with_reducible exact over_self _ | with_reducible refine ex_into ?_ _ | with_reducible refine ex_alloc ?_ _ | with_reducible refine ex_drew ?_ | ((with_reducible refine ex_setCell ?_ ?_ _); rotate_left; (first | omega | (simp; done) | (simp; omega))) | exact ex_over)) ?_
                refine mixL_eff rfl ?_
                go_wp2_with (fail)
                refine MixQ.mk (by (try unfold Ov); repeat (first | with_reducible exact ex_over | with_reducible exact over_self _ | with_reducible refine ex_into ?_ _ | with_reducible refine ex_alloc ?_ _ | with_reducible refine ex_drew ?_ | ((with_reducible refine ex_setCell ?_ ?_ _); rotate_left; (first | omega | (simp; done) | (simp; omega))) | exact ex_over)) ?_
                refine mixL_nil ?_
                go_wp2_with (at_builtin; refine wpList_append span_elem Sp.cs_len Sp.cs_one rfl (.tmp 48) (.tmp 50) rfl (B := w) (xs := [M]) hown rfl rfl (by (try unfold Ov); repeat (first | with_reducible exact ex_over | with_reducible exact over_self _ | with_reducible refine ex_into ?_ _ | with_reducible refine ex_alloc ?_ _ | with_reducible refine ex_drew ?_ | ((with_reducible refine ex_setCell ?_ ?_ _); rotate_left; (first | omega | (simp; done) | (simp; omega))) | exact ex_over)) (by (try unfold Ov); repeat (first | with_reducible exact ex_over | with_reducible exact over_self _ | with_reducible refine ex_into ?_ _ | with_reducible refine ex_alloc ?_ _ | with_reducible refine ex_drew ?_ | ((with_reducible refine ex_setCell ?_ ?_ _); rotate_left; (first | omega | (simp; done) | (simp; omega))) | exact ex_over)) (by simp) (by simp; try omega) (by first | exact Sl.one_new (y := M) (by simp; try omega) | exact Sl.drew (Sl.one_new (y := M) (by simp; try omega))) (by simp only [List.length_append, List.length_singleton]; unfold maxLen; omega) (by simp only [List.length_append, List.length_singleton]; omega) ?_; intro v' x' hown' _ _)
                refine wp_region_over (by kernel_rfl) (by kernel_rfl) ?_
                repeat (go_big_quiet_step (fail))
                refine wpQuiet_nil ?_
                intro _ hw'
                obtain ⟨nq, rfl⟩ := hw'
                go_wp2_with fail
                go_roundw
                case rel => exact ⟨ps, qt, zs ++ [M], some ⟨b1, o1, none⟩, b2, c, d2, rfl, rfl, hp, hq2, (by (try unfold Ov); repeat (first | with_reducible exact ex_over | with_reducible exact over_self _ | with_reducible refine ex_into ?_ _ | with_reducible refine ex_alloc ?_ _ | with_reducible refine ex_drew ?_ | ((with_reducible refine ex_setCell ?_ ?_ _); rotate_left; (first | omega | (simp; done) | (simp; omega))) | exact ex_over)), (by repeat (first | with_reducible exact hown' | with_reducible refine Own.over ?_ _ | with_reducible refine Own.alloc ?_ _ | with_reducible refine Own.drew ?_ | exact hown')), by simp; omega, hid (by rw [← hgo.out, meetGo_b hp0 hq0 H4.out, H3.out, ← Hqt.out])⟩
                case measure => simp [lenOf]; omega
              · have H4 := hid h4
                go_wp2_with fail
                refine wp_region_mix [19, 20] (by kernel_rfl) (by kernel_rfl) ?_
                refine mixL_quiet 19 (by kernel_rfl) ?_
                simp only [List.take_succ_cons, List.take_zero, List.drop_succ_cons, List.drop_zero]
                repeat (go_big_quiet_step (fail))
                refine wpQuiet_nil ?_
                refine mixL_eff rfl ?_
                go_wp2_with (fail)
                refine MixQ.mk (by (try unfold Ov); repeat (first | with_reducible exact ex_over | with_reducible exact over_self _ | with_reducible refine ex_into ?_ _ | with_reducible refine ex_alloc ?_ _ | with_reducible refine ex_drew ?_ | ((with_reducible refine ex_setCell ?_ ?_ _); rotate_left; (first | omega | (simp; done) | (simp; omega))) | exact ex_over)) ?_
                refine mixL_eff rfl ?_
                go_wp2_with (fail)
                refine MixQ.mk (by (try unfold Ov); repeat (first | with_reducible exact ex_over | with_reducible exact over_self _ | with_reducible refine ex_into ?_ _ | with_reducible refine ex_alloc ?_ _ | with_reducible refine ex_drew ?_ | ((with_reducible refine ex_setCell ?_ ?_ _); rotate_left; (first | omega | (simp; done) | (simp; omega))) | exact ex_over)) ?_
                refine mixL_nil ?_
                go_wp2_with (at_builtin; refine wpList_append span_elem Sp.cs_len Sp.cs_one rfl (.tmp 48) (.tmp 50) rfl (B := w) (xs := [M]) hown rfl rfl (by (try unfold Ov); repeat (first | with_reducible exact ex_over | with_reducible exact over_self _ | with_reducible refine ex_into ?_ _ | with_reducible refine ex_alloc ?_ _ | with_reducible refine ex_drew ?_ | ((with_reducible refine ex_setCell ?_ ?_ _); rotate_left; (first | omega | (simp; done) | (simp; omega))) | exact ex_over)) (by (try unfold Ov); repeat (first | with_reducible exact ex_over | with_reducible exact over_self _ | with_reducible refine ex_into ?_ _ | with_reducible refine ex_alloc ?_ _ | with_reducible refine ex_drew ?_ | ((with_reducible refine ex_setCell ?_ ?_ _); rotate_left; (first | omega | (simp; done) | (simp; omega))) | exact ex_over)) (by simp) (by simp; try omega) (by first | exact Sl.one_new (y := M) (by simp; try omega) | exact Sl.drew (Sl.one_new (y := M) (by simp; try omega))) (by simp only [List.length_append, List.length_singleton]; unfold maxLen; omega) (by simp only [List.length_append, List.length_singleton]; omega) ?_; intro v' x' hown' _ _)
                refine wp_region_over (by kernel_rfl) (by kernel_rfl) ?_
                repeat (go_big_quiet_step (fail))
                refine wpQuiet_nil ?_
                intro _ hw'
                obtain ⟨nq, rfl⟩ := hw'
                go_wp2_with fail
                go_roundw
                case rel => exact ⟨pt, qs, zs ++ [M], a2, some ⟨b2', o2, none⟩, c2, c', rfl, rfl, hp2, hq, (by (try unfold Ov); repeat (first | with_reducible exact ex_over | with_reducible exact over_self _ | with_reducible refine ex_into ?_ _ | with_reducible refine ex_alloc ?_ _ | with_reducible refine ex_drew ?_ | ((with_reducible refine ex_setCell ?_ ?_ _); rotate_left; (first | omega | (simp; done) | (simp; omega))) | exact ex_over)), (by repeat (first | with_reducible exact hown' | with_reducible refine Own.over ?_ _ | with_reducible refine Own.alloc ?_ _ | with_reducible refine Own.drew ?_ | exact hown')), by simp; omega, hid (by rw [← hgo.out, meetGo_a hp0 hq0 H4.out, H3.out, ← Hpt.out])⟩
                case measure => simp [lenOf]; omega
          · go_wp2_with fail
            (try rw [Exit.noGoto_ret]); go_ret2
            refine ⟨(by (try unfold Ov); repeat (first | with_reducible exact ex_over | with_reducible exact over_self _ | with_reducible refine ex_into ?_ _ | with_reducible refine ex_alloc ?_ _ | with_reducible refine ex_drew ?_ | ((with_reducible refine ex_setCell ?_ ?_ _); rotate_left; (first | omega | (simp; done) | (simp; omega))) | exact ex_over)), _, by rw [H1.out, H2.out]; rfl, ?_⟩
            have : meetS xs ys = zs := by rw [meetS, H1.out, H2.out, ← hgo.out, meetGo_end (.inr (by omega))]; rfl
            rw [this]
            exact hown
        · go_wp2_with fail
          (try rw [Exit.noGoto_ret]); go_ret2
          refine ⟨(by (try unfold Ov); repeat (first | with_reducible exact ex_over | with_reducible exact over_self _ | with_reducible refine ex_into ?_ _ | with_reducible refine ex_alloc ?_ _ | with_reducible refine ex_drew ?_ | ((with_reducible refine ex_setCell ?_ ?_ _); rotate_left; (first | omega | (simp; done) | (simp; omega))) | exact ex_over)), _, by rw [H1.out, H2.out]; rfl, ?_⟩
          have : meetS xs ys = zs := by rw [meetS, H1.out, H2.out, ← hgo.out, meetGo_end (.inl (by omega))]; rfl
          rw [this]
          exact hown
end Go.Proofs.Ytbkekpfancbemaa
