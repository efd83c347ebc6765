/- Texts merged: Fit, Frm, LRfu. -/
import Derived.Test.YtojkoijdndinoaaDoorHG
import Derived.Test.YtojkoijdndinoaaDoorHF
import Derived.Test.YtojkoijdndinoaaDoorHL
import Derived.Test.YtojkoijdndinoaaDoorLLaid
import Derived.Test.YtojkoijdndinoaaDoorLB
import Derived.Test.YtojkoijdndinoaaDoorGM
import Derived.Test.YtojkoijdndinoaaDoorHE
import Derived.Deep.Cut
namespace Go.Proofs.YtojkoijdndinoaaDoor
set_option linter.unusedVariables false
set_option linter.unusedSimpArgs false
open Go.RowKit
attribute [local go_sem] over_drew chg_drew
set_option maxRecDepth 100000 in
set_option maxHeartbeats 4000000 in
theorem fits_any {base : Nat} {w : World} {b n sz mb : Nat} {L : List Se} (h : BkAt base w b n sz mb L) (hT : TabW w) (hn : L.length < n) (hn2 : n ≤ 64) (hsz : sz ≤ 24) (f : Fi) (hf : FiOk w f) {s : Sr} (hs : getS (bkOf L) f.id = s) (hcl : s.cl.length ≤ 900) {er : Nat} {cs : List Sm} (hc : TakeB s sz f er cs) :
    Calls Tryd.prog 12 #[.pointer (some ⟨b, 0, none⟩), f.v] w (Ret w (.int .u16 (er : Nat))) := by
  have HA := hid (fun W (hW : ∃ e, W = over w e) => bkAt_any (bk_ov h hW) f.id)
  rw [hs] at HA
  have HBr := hid (fun W (hW : ∃ e, W = over w e) (x : Se) (hx : SeAt 0 W x) (hxs : x.s = s) => brought_any (bk_ov h hW) (TabW.ov hT hW) hn hn2 hsz hx (by rw [hxs]; exact hcl) f ⟨hf.id, hf.pc, hf.pb, hf.pn, hf.ct, Sl.ov hf.s hW, hf.lt, hf.len, hf.n⟩ (er := er) (cs := cs) (by rw [hxs]; exact hc))
  have HHB := hid (fun W (hW : ∃ e, W = over w e) => bk_ov h hW)
  obtain ⟨kd, ep, id, pc, pb, pn, ct, cl, sm, fa, fcap, bs, N⟩ := f
  simp only at *
  clear h hs hf hc hT
  by_cases hn0 : er = 0
  · subst hn0
    have HBr' := hid (fun W hW x hx hxs => (HBr.out W hW x hx hxs).mono (fun en w' hp => by
      have hp2 := hp.2
      rw [if_pos rfl] at hp2
      obtain ⟨p, hp3, _⟩ := hp2
      exact (⟨⟨p, hp3⟩, hp.1⟩ : (∃ p : Prt, en = .returned (.tuple #[p.v, .int .u16 0])) ∧ ∃ e, w' = over W e)))
    clear HBr
    go_enter Tryd.func12, Tryd.ntmps12
    go_wp2
    refine M2.wp_region_tree (fun w' => ∃ e : World, w' = over _ e) [4, 6, 10, 11] (.q 0 (.q 1 (.q 2 (.q 3 (.q 5 (.e 4 (.e 6 (.q 7 (.q 8 (.q 9 (.e 10 (.e 11 (.q 12 .done) .no) .no)))) (.e 10 (.e 6 (.q 7 (.q 8 (.q 9 (.e 11 (.q 12 .done) .no)))) .no) .no)) (.e 10 (.e 4 (.e 6 (.q 7 (.q 8 (.q 9 (.e 11 (.q 12 .done) .no)))) .no) .no) .no))))))) (by kernel_rfl) (by kernel_rfl) (ex_drew (over_self _)) ?_
    refine M2.tree_q (k := 0) rfl rfl ?_
    go_big_quiet_step (fail)
    with_reducible refine wpQuiet_nil ?_
    refine M2.tree_q (k := 1) rfl rfl ?_
    go_big_quiet_step (fail)
    with_reducible refine wpQuiet_nil ?_
    refine M2.tree_q (k := 2) rfl rfl ?_
    go_big_quiet_step (fail)
    with_reducible refine wpQuiet_nil ?_
    refine M2.tree_q (k := 3) rfl rfl ?_
    go_big_quiet_step (fail)
    with_reducible refine wpQuiet_nil ?_
    refine M2.tree_q (k := 5) rfl rfl ?_
    go_big_quiet_step (fail)
    with_reducible refine wpQuiet_nil ?_
    refine M2.tree_e (k := 4) rfl ?_ ?_
    · go_wp2_with ((first | (go_at_call 21; (with_reducible refine (HA.out _ (by (try unfold Ov); exact ovA)).mono ?_); rintro _ _ ⟨x, rfl, ⟨e3, rfl⟩, hx, hxs⟩; (try simp only [over_drew] at hx); have HX := hid hx; have HXS := hid hxs; clear hx hxs) | (go_at_call 23; refine gen_c ?_; intro W5 hW5; have hov5 : ∃ e, W5 = over w e := (by rw [hW5]; exact (by (try unfold Ov); exact ovA)); have hx5 : SeAt 0 W5 x := (by rw [hW5]; first | exact HX.out | exact HX.out.ov (by (try unfold Ov); exact ovA)); (with_reducible refine (HBr'.out W5 hov5 x hx5 HXS.out).mono ?_); clear hov5 hx5; subst hW5; rintro _ _ ⟨⟨⟨a4, c4, L4, a6, c6, us, ⟨m0, m1, m2, ⟨m3, m4, m5, m6⟩⟩, cb⟩, rfl⟩, ⟨e5, rfl⟩⟩)))
      refine M2.TreeQ.mk (by (try unfold Ov); exact ovA) ?_
      refine M2.tree_e (k := 6) rfl ?_ ?_
      · go_wp2_with ((first | (go_at_call 21; (with_reducible refine (HA.out _ (by (try unfold Ov); exact ovA)).mono ?_); rintro _ _ ⟨x, rfl, ⟨e3, rfl⟩, hx, hxs⟩; (try simp only [over_drew] at hx); have HX := hid hx; have HXS := hid hxs; clear hx hxs) | (go_at_call 23; refine gen_c ?_; intro W5 hW5; have hov5 : ∃ e, W5 = over w e := (by rw [hW5]; exact (by (try unfold Ov); exact ovA)); have hx5 : SeAt 0 W5 x := (by rw [hW5]; first | exact HX.out | exact HX.out.ov (by (try unfold Ov); exact ovA)); (with_reducible refine (HBr'.out W5 hov5 x hx5 HXS.out).mono ?_); clear hov5 hx5; subst hW5; rintro _ _ ⟨⟨⟨a4, c4, L4, a6, c6, us, ⟨m0, m1, m2, ⟨m3, m4, m5, m6⟩⟩, cb⟩, rfl⟩, ⟨e5, rfl⟩⟩)))
        refine M2.TreeQ.mk (by (try unfold Ov); exact ovA) ?_
        refine M2.tree_q (k := 7) rfl rfl ?_
        go_big_quiet_step (fail)
        with_reducible refine wpQuiet_nil ?_
        refine M2.tree_q (k := 8) rfl rfl ?_
        go_big_quiet_step (fail)
        with_reducible refine wpQuiet_nil ?_
        refine M2.tree_q (k := 9) rfl rfl ?_
        go_big_quiet_step (fail)
        with_reducible refine wpQuiet_nil ?_
        refine M2.tree_e (k := 10) rfl ?_ ?_
        · go_wp2_with ((first | (go_at_call 21; (with_reducible refine (HA.out _ (by (try unfold Ov); exact ovA)).mono ?_); rintro _ _ ⟨x, rfl, ⟨e3, rfl⟩, hx, hxs⟩; (try simp only [over_drew] at hx); have HX := hid hx; have HXS := hid hxs; clear hx hxs) | (go_at_call 23; refine gen_c ?_; intro W5 hW5; have hov5 : ∃ e, W5 = over w e := (by rw [hW5]; exact (by (try unfold Ov); exact ovA)); have hx5 : SeAt 0 W5 x := (by rw [hW5]; first | exact HX.out | exact HX.out.ov (by (try unfold Ov); exact ovA)); (with_reducible refine (HBr'.out W5 hov5 x hx5 HXS.out).mono ?_); clear hov5 hx5; subst hW5; rintro _ _ ⟨⟨⟨a4, c4, L4, a6, c6, us, ⟨m0, m1, m2, ⟨m3, m4, m5, m6⟩⟩, cb⟩, rfl⟩, ⟨e5, rfl⟩⟩)))
          refine M2.TreeQ.mk (by (try unfold Ov); exact ovA) ?_
          refine M2.tree_e (k := 11) rfl ?_ ?_
          · go_wp2_with ((first | (go_at_call 21; (with_reducible refine (HA.out _ (by (try unfold Ov); exact ovA)).mono ?_); rintro _ _ ⟨x, rfl, ⟨e3, rfl⟩, hx, hxs⟩; (try simp only [over_drew] at hx); have HX := hid hx; have HXS := hid hxs; clear hx hxs) | (go_at_call 23; refine gen_c ?_; intro W5 hW5; have hov5 : ∃ e, W5 = over w e := (by rw [hW5]; exact (by (try unfold Ov); exact ovA)); have hx5 : SeAt 0 W5 x := (by rw [hW5]; first | exact HX.out | exact HX.out.ov (by (try unfold Ov); exact ovA)); (with_reducible refine (HBr'.out W5 hov5 x hx5 HXS.out).mono ?_); clear hov5 hx5; subst hW5; rintro _ _ ⟨⟨⟨a4, c4, L4, a6, c6, us, ⟨m0, m1, m2, ⟨m3, m4, m5, m6⟩⟩, cb⟩, rfl⟩, ⟨e5, rfl⟩⟩)))
            refine M2.TreeQ.mk (by (try unfold Ov); exact ovA) ?_
            refine M2.tree_q (k := 12) rfl rfl ?_
            go_big_quiet_step (fail)
            with_reducible refine wpQuiet_nil ?_
            refine M2.tree_done ?_
            go_wp2
            go_ret
            exact ⟨(by (try unfold Ov); exact ovA), rfl⟩
          exact M2.tree_no
        exact M2.tree_no
      refine M2.tree_e (k := 10) rfl ?_ ?_
      · go_wp2_with ((first | (go_at_call 21; (with_reducible refine (HA.out _ (by (try unfold Ov); exact ovA)).mono ?_); rintro _ _ ⟨x, rfl, ⟨e3, rfl⟩, hx, hxs⟩; (try simp only [over_drew] at hx); have HX := hid hx; have HXS := hid hxs; clear hx hxs) | (go_at_call 23; refine gen_c ?_; intro W5 hW5; have hov5 : ∃ e, W5 = over w e := (by rw [hW5]; exact (by (try unfold Ov); exact ovA)); have hx5 : SeAt 0 W5 x := (by rw [hW5]; first | exact HX.out | exact HX.out.ov (by (try unfold Ov); exact ovA)); (with_reducible refine (HBr'.out W5 hov5 x hx5 HXS.out).mono ?_); clear hov5 hx5; subst hW5; rintro _ _ ⟨⟨⟨a4, c4, L4, a6, c6, us, ⟨m0, m1, m2, ⟨m3, m4, m5, m6⟩⟩, cb⟩, rfl⟩, ⟨e5, rfl⟩⟩)))
        refine M2.TreeQ.mk (by (try unfold Ov); exact ovA) ?_
        refine M2.tree_e (k := 6) rfl ?_ ?_
        · go_wp2_with ((first | (go_at_call 21; (with_reducible refine (HA.out _ (by (try unfold Ov); exact ovA)).mono ?_); rintro _ _ ⟨x, rfl, ⟨e3, rfl⟩, hx, hxs⟩; (try simp only [over_drew] at hx); have HX := hid hx; have HXS := hid hxs; clear hx hxs) | (go_at_call 23; refine gen_c ?_; intro W5 hW5; have hov5 : ∃ e, W5 = over w e := (by rw [hW5]; exact (by (try unfold Ov); exact ovA)); have hx5 : SeAt 0 W5 x := (by rw [hW5]; first | exact HX.out | exact HX.out.ov (by (try unfold Ov); exact ovA)); (with_reducible refine (HBr'.out W5 hov5 x hx5 HXS.out).mono ?_); clear hov5 hx5; subst hW5; rintro _ _ ⟨⟨⟨a4, c4, L4, a6, c6, us, ⟨m0, m1, m2, ⟨m3, m4, m5, m6⟩⟩, cb⟩, rfl⟩, ⟨e5, rfl⟩⟩)))
          refine M2.TreeQ.mk (by (try unfold Ov); exact ovA) ?_
          refine M2.tree_q (k := 7) rfl rfl ?_
          go_big_quiet_step (fail)
          with_reducible refine wpQuiet_nil ?_
          refine M2.tree_q (k := 8) rfl rfl ?_
          go_big_quiet_step (fail)
          with_reducible refine wpQuiet_nil ?_
          refine M2.tree_q (k := 9) rfl rfl ?_
          go_big_quiet_step (fail)
          with_reducible refine wpQuiet_nil ?_
          refine M2.tree_e (k := 11) rfl ?_ ?_
          · go_wp2_with ((first | (go_at_call 21; (with_reducible refine (HA.out _ (by (try unfold Ov); exact ovA)).mono ?_); rintro _ _ ⟨x, rfl, ⟨e3, rfl⟩, hx, hxs⟩; (try simp only [over_drew] at hx); have HX := hid hx; have HXS := hid hxs; clear hx hxs) | (go_at_call 23; refine gen_c ?_; intro W5 hW5; have hov5 : ∃ e, W5 = over w e := (by rw [hW5]; exact (by (try unfold Ov); exact ovA)); have hx5 : SeAt 0 W5 x := (by rw [hW5]; first | exact HX.out | exact HX.out.ov (by (try unfold Ov); exact ovA)); (with_reducible refine (HBr'.out W5 hov5 x hx5 HXS.out).mono ?_); clear hov5 hx5; subst hW5; rintro _ _ ⟨⟨⟨a4, c4, L4, a6, c6, us, ⟨m0, m1, m2, ⟨m3, m4, m5, m6⟩⟩, cb⟩, rfl⟩, ⟨e5, rfl⟩⟩)))
            refine M2.TreeQ.mk (by (try unfold Ov); exact ovA) ?_
            refine M2.tree_q (k := 12) rfl rfl ?_
            go_big_quiet_step (fail)
            with_reducible refine wpQuiet_nil ?_
            refine M2.tree_done ?_
            go_wp2
            go_ret
            exact ⟨(by (try unfold Ov); exact ovA), rfl⟩
          exact M2.tree_no
        exact M2.tree_no
      exact M2.tree_no
    refine M2.tree_e (k := 10) rfl ?_ ?_
    · go_wp2_with ((first | (go_at_call 21; (with_reducible refine (HA.out _ (by (try unfold Ov); exact ovA)).mono ?_); rintro _ _ ⟨x, rfl, ⟨e3, rfl⟩, hx, hxs⟩; (try simp only [over_drew] at hx); have HX := hid hx; have HXS := hid hxs; clear hx hxs) | (go_at_call 23; refine gen_c ?_; intro W5 hW5; have hov5 : ∃ e, W5 = over w e := (by rw [hW5]; exact (by (try unfold Ov); exact ovA)); have hx5 : SeAt 0 W5 x := (by rw [hW5]; first | exact HX.out | exact HX.out.ov (by (try unfold Ov); exact ovA)); (with_reducible refine (HBr'.out W5 hov5 x hx5 HXS.out).mono ?_); clear hov5 hx5; subst hW5; rintro _ _ ⟨⟨⟨a4, c4, L4, a6, c6, us, ⟨m0, m1, m2, ⟨m3, m4, m5, m6⟩⟩, cb⟩, rfl⟩, ⟨e5, rfl⟩⟩)))
      refine M2.TreeQ.mk (by (try unfold Ov); exact ovA) ?_
      refine M2.tree_e (k := 4) rfl ?_ ?_
      · go_wp2_with ((first | (go_at_call 21; (with_reducible refine (HA.out _ (by (try unfold Ov); exact ovA)).mono ?_); rintro _ _ ⟨x, rfl, ⟨e3, rfl⟩, hx, hxs⟩; (try simp only [over_drew] at hx); have HX := hid hx; have HXS := hid hxs; clear hx hxs) | (go_at_call 23; refine gen_c ?_; intro W5 hW5; have hov5 : ∃ e, W5 = over w e := (by rw [hW5]; exact (by (try unfold Ov); exact ovA)); have hx5 : SeAt 0 W5 x := (by rw [hW5]; first | exact HX.out | exact HX.out.ov (by (try unfold Ov); exact ovA)); (with_reducible refine (HBr'.out W5 hov5 x hx5 HXS.out).mono ?_); clear hov5 hx5; subst hW5; rintro _ _ ⟨⟨⟨a4, c4, L4, a6, c6, us, ⟨m0, m1, m2, ⟨m3, m4, m5, m6⟩⟩, cb⟩, rfl⟩, ⟨e5, rfl⟩⟩)))
        refine M2.TreeQ.mk (by (try unfold Ov); exact ovA) ?_
        refine M2.tree_e (k := 6) rfl ?_ ?_
        · go_wp2_with ((first | (go_at_call 21; (with_reducible refine (HA.out _ (by (try unfold Ov); exact ovA)).mono ?_); rintro _ _ ⟨x, rfl, ⟨e3, rfl⟩, hx, hxs⟩; (try simp only [over_drew] at hx); have HX := hid hx; have HXS := hid hxs; clear hx hxs) | (go_at_call 23; refine gen_c ?_; intro W5 hW5; have hov5 : ∃ e, W5 = over w e := (by rw [hW5]; exact (by (try unfold Ov); exact ovA)); have hx5 : SeAt 0 W5 x := (by rw [hW5]; first | exact HX.out | exact HX.out.ov (by (try unfold Ov); exact ovA)); (with_reducible refine (HBr'.out W5 hov5 x hx5 HXS.out).mono ?_); clear hov5 hx5; subst hW5; rintro _ _ ⟨⟨⟨a4, c4, L4, a6, c6, us, ⟨m0, m1, m2, ⟨m3, m4, m5, m6⟩⟩, cb⟩, rfl⟩, ⟨e5, rfl⟩⟩)))
          refine M2.TreeQ.mk (by (try unfold Ov); exact ovA) ?_
          refine M2.tree_q (k := 7) rfl rfl ?_
          go_big_quiet_step (fail)
          with_reducible refine wpQuiet_nil ?_
          refine M2.tree_q (k := 8) rfl rfl ?_
          go_big_quiet_step (fail)
          with_reducible refine wpQuiet_nil ?_
          refine M2.tree_q (k := 9) rfl rfl ?_
          go_big_quiet_step (fail)
          with_reducible refine wpQuiet_nil ?_
          refine M2.tree_e (k := 11) rfl ?_ ?_
          · go_wp2_with ((first | (go_at_call 21; (with_reducible refine (HA.out _ (by (try unfold Ov); exact ovA)).mono ?_); rintro _ _ ⟨x, rfl, ⟨e3, rfl⟩, hx, hxs⟩; (try simp only [over_drew] at hx); have HX := hid hx; have HXS := hid hxs; clear hx hxs) | (go_at_call 23; refine gen_c ?_; intro W5 hW5; have hov5 : ∃ e, W5 = over w e := (by rw [hW5]; exact (by (try unfold Ov); exact ovA)); have hx5 : SeAt 0 W5 x := (by rw [hW5]; first | exact HX.out | exact HX.out.ov (by (try unfold Ov); exact ovA)); (with_reducible refine (HBr'.out W5 hov5 x hx5 HXS.out).mono ?_); clear hov5 hx5; subst hW5; rintro _ _ ⟨⟨⟨a4, c4, L4, a6, c6, us, ⟨m0, m1, m2, ⟨m3, m4, m5, m6⟩⟩, cb⟩, rfl⟩, ⟨e5, rfl⟩⟩)))
            refine M2.TreeQ.mk (by (try unfold Ov); exact ovA) ?_
            refine M2.tree_q (k := 12) rfl rfl ?_
            go_big_quiet_step (fail)
            with_reducible refine wpQuiet_nil ?_
            refine M2.tree_done ?_
            go_wp2
            go_ret
            exact ⟨(by (try unfold Ov); exact ovA), rfl⟩
          exact M2.tree_no
        exact M2.tree_no
      exact M2.tree_no
    exact M2.tree_no
  · have HBr' := hid (fun W hW x hx hxs => (HBr.out W hW x hx hxs).mono (fun en w' hp => by
      have hp2 := hp.2
      rw [if_neg hn0] at hp2
      exact (⟨hp2, hp.1⟩ : en = .returned (.tuple #[partZ, .int .u16 (er : Nat)]) ∧ ∃ e, w' = over W e)))
    clear HBr
    go_enter Tryd.func12, Tryd.ntmps12
    go_wp2
    refine M2.wp_region_tree (fun w' => ∃ e : World, w' = over _ e) [4, 6, 10, 11] (.q 0 (.q 1 (.q 2 (.q 3 (.q 5 (.e 4 (.e 6 (.q 7 (.q 8 (.q 9 (.e 10 (.e 11 (.q 12 .done) .no) .no)))) (.e 10 (.e 6 (.q 7 (.q 8 (.q 9 (.e 11 (.q 12 .done) .no)))) .no) .no)) (.e 10 (.e 4 (.e 6 (.q 7 (.q 8 (.q 9 (.e 11 (.q 12 .done) .no)))) .no) .no) .no))))))) (by kernel_rfl) (by kernel_rfl) (ex_drew (over_self _)) ?_
    refine M2.tree_q (k := 0) rfl rfl ?_
    go_big_quiet_step (fail)
    with_reducible refine wpQuiet_nil ?_
    refine M2.tree_q (k := 1) rfl rfl ?_
    go_big_quiet_step (fail)
    with_reducible refine wpQuiet_nil ?_
    refine M2.tree_q (k := 2) rfl rfl ?_
    go_big_quiet_step (fail)
    with_reducible refine wpQuiet_nil ?_
    refine M2.tree_q (k := 3) rfl rfl ?_
    go_big_quiet_step (fail)
    with_reducible refine wpQuiet_nil ?_
    refine M2.tree_q (k := 5) rfl rfl ?_
    go_big_quiet_step (fail)
    with_reducible refine wpQuiet_nil ?_
    refine M2.tree_e (k := 4) rfl ?_ ?_
    · go_wp2_with ((first | (go_at_call 21; (with_reducible refine (HA.out _ (by (try unfold Ov); exact ovA)).mono ?_); rintro _ _ ⟨x, rfl, ⟨e3, rfl⟩, hx, hxs⟩; (try simp only [over_drew] at hx); have HX := hid hx; have HXS := hid hxs; clear hx hxs) | (go_at_call 23; refine gen_c ?_; intro W5 hW5; have hov5 : ∃ e, W5 = over w e := (by rw [hW5]; exact (by (try unfold Ov); exact ovA)); have hx5 : SeAt 0 W5 x := (by rw [hW5]; first | exact HX.out | exact HX.out.ov (by (try unfold Ov); exact ovA)); (with_reducible refine (HBr'.out W5 hov5 x hx5 HXS.out).mono ?_); clear hov5 hx5; subst hW5; rintro _ _ ⟨rfl, ⟨e5, rfl⟩⟩)))
      refine M2.TreeQ.mk (by (try unfold Ov); exact ovA) ?_
      refine M2.tree_e (k := 6) rfl ?_ ?_
      · go_wp2_with ((first | (go_at_call 21; (with_reducible refine (HA.out _ (by (try unfold Ov); exact ovA)).mono ?_); rintro _ _ ⟨x, rfl, ⟨e3, rfl⟩, hx, hxs⟩; (try simp only [over_drew] at hx); have HX := hid hx; have HXS := hid hxs; clear hx hxs) | (go_at_call 23; refine gen_c ?_; intro W5 hW5; have hov5 : ∃ e, W5 = over w e := (by rw [hW5]; exact (by (try unfold Ov); exact ovA)); have hx5 : SeAt 0 W5 x := (by rw [hW5]; first | exact HX.out | exact HX.out.ov (by (try unfold Ov); exact ovA)); (with_reducible refine (HBr'.out W5 hov5 x hx5 HXS.out).mono ?_); clear hov5 hx5; subst hW5; rintro _ _ ⟨rfl, ⟨e5, rfl⟩⟩)))
        refine M2.TreeQ.mk (by (try unfold Ov); exact ovA) ?_
        refine M2.tree_q (k := 7) rfl rfl ?_
        go_big_quiet_step (fail)
        with_reducible refine wpQuiet_nil ?_
        refine M2.tree_q (k := 8) rfl rfl ?_
        go_big_quiet_step (fail)
        with_reducible refine wpQuiet_nil ?_
        refine M2.tree_q (k := 9) rfl rfl ?_
        go_big_quiet_step (fail)
        with_reducible refine wpQuiet_nil ?_
        refine M2.tree_e (k := 10) rfl ?_ ?_
        · go_wp2_with ((first | (go_at_call 21; (with_reducible refine (HA.out _ (by (try unfold Ov); exact ovA)).mono ?_); rintro _ _ ⟨x, rfl, ⟨e3, rfl⟩, hx, hxs⟩; (try simp only [over_drew] at hx); have HX := hid hx; have HXS := hid hxs; clear hx hxs) | (go_at_call 23; refine gen_c ?_; intro W5 hW5; have hov5 : ∃ e, W5 = over w e := (by rw [hW5]; exact (by (try unfold Ov); exact ovA)); have hx5 : SeAt 0 W5 x := (by rw [hW5]; first | exact HX.out | exact HX.out.ov (by (try unfold Ov); exact ovA)); (with_reducible refine (HBr'.out W5 hov5 x hx5 HXS.out).mono ?_); clear hov5 hx5; subst hW5; rintro _ _ ⟨rfl, ⟨e5, rfl⟩⟩)))
          refine M2.TreeQ.mk (by (try unfold Ov); exact ovA) ?_
          refine M2.tree_e (k := 11) rfl ?_ ?_
          · go_wp2_with ((first | (go_at_call 21; (with_reducible refine (HA.out _ (by (try unfold Ov); exact ovA)).mono ?_); rintro _ _ ⟨x, rfl, ⟨e3, rfl⟩, hx, hxs⟩; (try simp only [over_drew] at hx); have HX := hid hx; have HXS := hid hxs; clear hx hxs) | (go_at_call 23; refine gen_c ?_; intro W5 hW5; have hov5 : ∃ e, W5 = over w e := (by rw [hW5]; exact (by (try unfold Ov); exact ovA)); have hx5 : SeAt 0 W5 x := (by rw [hW5]; first | exact HX.out | exact HX.out.ov (by (try unfold Ov); exact ovA)); (with_reducible refine (HBr'.out W5 hov5 x hx5 HXS.out).mono ?_); clear hov5 hx5; subst hW5; rintro _ _ ⟨rfl, ⟨e5, rfl⟩⟩)))
            refine M2.TreeQ.mk (by (try unfold Ov); exact ovA) ?_
            refine M2.tree_q (k := 12) rfl rfl ?_
            go_big_quiet_step (fail)
            with_reducible refine wpQuiet_nil ?_
            refine M2.tree_done ?_
            go_wp2
            go_ret
            exact ⟨(by (try unfold Ov); exact ovA), rfl⟩
          exact M2.tree_no
        exact M2.tree_no
      refine M2.tree_e (k := 10) rfl ?_ ?_
      · go_wp2_with ((first | (go_at_call 21; (with_reducible refine (HA.out _ (by (try unfold Ov); exact ovA)).mono ?_); rintro _ _ ⟨x, rfl, ⟨e3, rfl⟩, hx, hxs⟩; (try simp only [over_drew] at hx); have HX := hid hx; have HXS := hid hxs; clear hx hxs) | (go_at_call 23; refine gen_c ?_; intro W5 hW5; have hov5 : ∃ e, W5 = over w e := (by rw [hW5]; exact (by (try unfold Ov); exact ovA)); have hx5 : SeAt 0 W5 x := (by rw [hW5]; first | exact HX.out | exact HX.out.ov (by (try unfold Ov); exact ovA)); (with_reducible refine (HBr'.out W5 hov5 x hx5 HXS.out).mono ?_); clear hov5 hx5; subst hW5; rintro _ _ ⟨rfl, ⟨e5, rfl⟩⟩)))
        refine M2.TreeQ.mk (by (try unfold Ov); exact ovA) ?_
        refine M2.tree_e (k := 6) rfl ?_ ?_
        · go_wp2_with ((first | (go_at_call 21; (with_reducible refine (HA.out _ (by (try unfold Ov); exact ovA)).mono ?_); rintro _ _ ⟨x, rfl, ⟨e3, rfl⟩, hx, hxs⟩; (try simp only [over_drew] at hx); have HX := hid hx; have HXS := hid hxs; clear hx hxs) | (go_at_call 23; refine gen_c ?_; intro W5 hW5; have hov5 : ∃ e, W5 = over w e := (by rw [hW5]; exact (by (try unfold Ov); exact ovA)); have hx5 : SeAt 0 W5 x := (by rw [hW5]; first | exact HX.out | exact HX.out.ov (by (try unfold Ov); exact ovA)); (with_reducible refine (HBr'.out W5 hov5 x hx5 HXS.out).mono ?_); clear hov5 hx5; subst hW5; rintro _ _ ⟨rfl, ⟨e5, rfl⟩⟩)))
          refine M2.TreeQ.mk (by (try unfold Ov); exact ovA) ?_
          refine M2.tree_q (k := 7) rfl rfl ?_
          go_big_quiet_step (fail)
          with_reducible refine wpQuiet_nil ?_
          refine M2.tree_q (k := 8) rfl rfl ?_
          go_big_quiet_step (fail)
          with_reducible refine wpQuiet_nil ?_
          refine M2.tree_q (k := 9) rfl rfl ?_
          go_big_quiet_step (fail)
          with_reducible refine wpQuiet_nil ?_
          refine M2.tree_e (k := 11) rfl ?_ ?_
          · go_wp2_with ((first | (go_at_call 21; (with_reducible refine (HA.out _ (by (try unfold Ov); exact ovA)).mono ?_); rintro _ _ ⟨x, rfl, ⟨e3, rfl⟩, hx, hxs⟩; (try simp only [over_drew] at hx); have HX := hid hx; have HXS := hid hxs; clear hx hxs) | (go_at_call 23; refine gen_c ?_; intro W5 hW5; have hov5 : ∃ e, W5 = over w e := (by rw [hW5]; exact (by (try unfold Ov); exact ovA)); have hx5 : SeAt 0 W5 x := (by rw [hW5]; first | exact HX.out | exact HX.out.ov (by (try unfold Ov); exact ovA)); (with_reducible refine (HBr'.out W5 hov5 x hx5 HXS.out).mono ?_); clear hov5 hx5; subst hW5; rintro _ _ ⟨rfl, ⟨e5, rfl⟩⟩)))
            refine M2.TreeQ.mk (by (try unfold Ov); exact ovA) ?_
            refine M2.tree_q (k := 12) rfl rfl ?_
            go_big_quiet_step (fail)
            with_reducible refine wpQuiet_nil ?_
            refine M2.tree_done ?_
            go_wp2
            go_ret
            exact ⟨(by (try unfold Ov); exact ovA), rfl⟩
          exact M2.tree_no
        exact M2.tree_no
      exact M2.tree_no
    refine M2.tree_e (k := 10) rfl ?_ ?_
    · go_wp2_with ((first | (go_at_call 21; (with_reducible refine (HA.out _ (by (try unfold Ov); exact ovA)).mono ?_); rintro _ _ ⟨x, rfl, ⟨e3, rfl⟩, hx, hxs⟩; (try simp only [over_drew] at hx); have HX := hid hx; have HXS := hid hxs; clear hx hxs) | (go_at_call 23; refine gen_c ?_; intro W5 hW5; have hov5 : ∃ e, W5 = over w e := (by rw [hW5]; exact (by (try unfold Ov); exact ovA)); have hx5 : SeAt 0 W5 x := (by rw [hW5]; first | exact HX.out | exact HX.out.ov (by (try unfold Ov); exact ovA)); (with_reducible refine (HBr'.out W5 hov5 x hx5 HXS.out).mono ?_); clear hov5 hx5; subst hW5; rintro _ _ ⟨rfl, ⟨e5, rfl⟩⟩)))
      refine M2.TreeQ.mk (by (try unfold Ov); exact ovA) ?_
      refine M2.tree_e (k := 4) rfl ?_ ?_
      · go_wp2_with ((first | (go_at_call 21; (with_reducible refine (HA.out _ (by (try unfold Ov); exact ovA)).mono ?_); rintro _ _ ⟨x, rfl, ⟨e3, rfl⟩, hx, hxs⟩; (try simp only [over_drew] at hx); have HX := hid hx; have HXS := hid hxs; clear hx hxs) | (go_at_call 23; refine gen_c ?_; intro W5 hW5; have hov5 : ∃ e, W5 = over w e := (by rw [hW5]; exact (by (try unfold Ov); exact ovA)); have hx5 : SeAt 0 W5 x := (by rw [hW5]; first | exact HX.out | exact HX.out.ov (by (try unfold Ov); exact ovA)); (with_reducible refine (HBr'.out W5 hov5 x hx5 HXS.out).mono ?_); clear hov5 hx5; subst hW5; rintro _ _ ⟨rfl, ⟨e5, rfl⟩⟩)))
        refine M2.TreeQ.mk (by (try unfold Ov); exact ovA) ?_
        refine M2.tree_e (k := 6) rfl ?_ ?_
        · go_wp2_with ((first | (go_at_call 21; (with_reducible refine (HA.out _ (by (try unfold Ov); exact ovA)).mono ?_); rintro _ _ ⟨x, rfl, ⟨e3, rfl⟩, hx, hxs⟩; (try simp only [over_drew] at hx); have HX := hid hx; have HXS := hid hxs; clear hx hxs) | (go_at_call 23; refine gen_c ?_; intro W5 hW5; have hov5 : ∃ e, W5 = over w e := (by rw [hW5]; exact (by (try unfold Ov); exact ovA)); have hx5 : SeAt 0 W5 x := (by rw [hW5]; first | exact HX.out | exact HX.out.ov (by (try unfold Ov); exact ovA)); (with_reducible refine (HBr'.out W5 hov5 x hx5 HXS.out).mono ?_); clear hov5 hx5; subst hW5; rintro _ _ ⟨rfl, ⟨e5, rfl⟩⟩)))
          refine M2.TreeQ.mk (by (try unfold Ov); exact ovA) ?_
          refine M2.tree_q (k := 7) rfl rfl ?_
          go_big_quiet_step (fail)
          with_reducible refine wpQuiet_nil ?_
          refine M2.tree_q (k := 8) rfl rfl ?_
          go_big_quiet_step (fail)
          with_reducible refine wpQuiet_nil ?_
          refine M2.tree_q (k := 9) rfl rfl ?_
          go_big_quiet_step (fail)
          with_reducible refine wpQuiet_nil ?_
          refine M2.tree_e (k := 11) rfl ?_ ?_
          · go_wp2_with ((first | (go_at_call 21; (with_reducible refine (HA.out _ (by (try unfold Ov); exact ovA)).mono ?_); rintro _ _ ⟨x, rfl, ⟨e3, rfl⟩, hx, hxs⟩; (try simp only [over_drew] at hx); have HX := hid hx; have HXS := hid hxs; clear hx hxs) | (go_at_call 23; refine gen_c ?_; intro W5 hW5; have hov5 : ∃ e, W5 = over w e := (by rw [hW5]; exact (by (try unfold Ov); exact ovA)); have hx5 : SeAt 0 W5 x := (by rw [hW5]; first | exact HX.out | exact HX.out.ov (by (try unfold Ov); exact ovA)); (with_reducible refine (HBr'.out W5 hov5 x hx5 HXS.out).mono ?_); clear hov5 hx5; subst hW5; rintro _ _ ⟨rfl, ⟨e5, rfl⟩⟩)))
            refine M2.TreeQ.mk (by (try unfold Ov); exact ovA) ?_
            refine M2.tree_q (k := 12) rfl rfl ?_
            go_big_quiet_step (fail)
            with_reducible refine wpQuiet_nil ?_
            refine M2.tree_done ?_
            go_wp2
            go_ret
            exact ⟨(by (try unfold Ov); exact ovA), rfl⟩
          exact M2.tree_no
        exact M2.tree_no
      exact M2.tree_no
    exact M2.tree_no
theorem may_any {base : Nat} {w : World} {b n sz mb : Nat} {L : List Se} (h : BkAt base w b n sz mb L) (hn : L.length < n) (hn2 : n ≤ 64) (id : Nat) {s : Sr} (hs : getS (bkOf L) id = s) (hcl : s.cl.length ≤ 900) (t : Int) (v : Nat) :
    Calls Tryd.prog 14 #[.pointer (some ⟨b, 0, none⟩), .int .u32 (id : Nat), smV t v] w (Ret w (.int .u16 (if s.may t then 0 else 120 : Nat))) := by
  rcases get_or L id with ⟨i, hi, h1, h2⟩ | ⟨h1, h2⟩
  · rw [h2] at hs
    subst hs
    exact may_old h (by omega) hn2 hi h1 (by omega) t v
  · rw [h2] at hs
    subst hs
    rw [if_pos (by simp [Sr.may, Sr.zero])]
    exact may_new h hn hn2 h1 t v
end Go.Proofs.YtojkoijdndinoaaDoor
namespace Go.Proofs.YtojkoijdndinoaaDoor
set_option linter.unusedVariables false
set_option linter.unusedSimpArgs false
open Go.RowKit Go.ChangeShapes Go.WideShapes Go.ChangeAt
structure FiIn (w : World) (f : Fi) : Prop where
  id : f.id < 4294967296
  pc : f.pc < 4294967296
  pb : f.pb < 4294967296
  pn : f.pn < 4294967296
  ct : f.ct < 4294967296
  s : SlB w f.a f.c f.bs
  lt : ∀ b ∈ f.bs, b < 256
  n : -9223372036854775808 ≤ f.N ∧ f.N ≤ 9223372036854775807
theorem FiIn.ok {w : World} {f : Fi} (h : FiIn w f) (hl : f.bs.length ≤ 60000) : FiOk w f := ⟨h.id, h.pc, h.pb, h.pn, h.ct, h.s, h.lt, hl, h.n⟩
section
variable {H : Type} {enc : TypeId × Value → H} {W : World} {spare : Nat → Bool} {held : Bool}
set_option maxRecDepth 100000 in
theorem open_frame {v : Value} {y : DataW H} {ps : List MemPlace} {base : Nat} {r : Reach} (hv : Value.okWide Tryd.prog W r base 46 v) {b : Nat} (h : DataW.Trod enc Tryd.prog W b spare held 46 v y ps) : ∃ f : Fi, v = f.v ∧ FiIn W f := by
  obtain ⟨cs, rfl, _⟩ := okWide_struct Tryd.underlying46 hv
  have h1 := open_flatK (d := 7) (ks := [.i .u8, .i .u32, .i .u32, .i .u32, .i .u32, .i .u32, .i .u32, .b, .i .u64, .s 42, .i .i64]) (by kernel_rfl) h
  have hl := okAllK_length _ _ h1
  have hcs : ((Value.agg cs).cells.toList) = cs.toList := rfl
  rw [hcs] at h1 hl
  obtain ⟨l⟩ := cs
  simp only at h1 hl
  match l, hl, h1 with
  | [v0, v1, v2, v3, v4, v5, v6, v7, v8, v9, v10], _, h1 =>
    obtain ⟨⟨kd, rfl, _⟩, ⟨ep, rfl, _⟩, ⟨id, rfl, hid⟩, ⟨pc, rfl, hpc⟩, ⟨pb, rfl, hpb⟩, ⟨pn, rfl, hpn⟩, ⟨ct, rfl, hct⟩, ⟨cl, rfl⟩, ⟨sm, rfl, _⟩, ⟨a, n, c, rfl, m, y0, h0⟩, ⟨N, rfl, hN⟩, _⟩ := h1
    obtain ⟨id, rfl, hid'⟩ := u32_nat hid
    obtain ⟨pc, rfl, hpc'⟩ := u32_nat hpc
    obtain ⟨pb, rfl, hpb'⟩ := u32_nat hpb
    obtain ⟨pn, rfl, hpn'⟩ := u32_nat hpn
    obtain ⟨ct, rfl, hct'⟩ := u32_nat hct
    obtain ⟨bs, hl, hs, hb⟩ := open_sl (sz := 1) (cells := bcs) (d := 3) (ks := [some .u8]) (e := 5) (ok := fun x => x < 256) byte_dec (by decide) (by kernel_rfl) (by kernel_rfl) Tryd.underlying42 (⟨m, h0⟩ : DataW.Trod enc Tryd.prog W b spare held 42 (.slice a n c) y0.1 y0.2)
    subst hl
    have := bounds_i64 hN
    exact ⟨⟨kd, ep, id, pc, pb, pn, ct, cl, sm, a, c, bs, N⟩, rfl, hid', hpc', hpb', hpn', hct', hs, hb, by omega⟩
end
end Go.Proofs.YtojkoijdndinoaaDoor
namespace Go.Proofs.YtojkoijdndinoaaDoor
set_option linter.unusedVariables false
set_option linter.unusedSimpArgs false
open Go.RowKit
attribute [local go_sem] over_drew chg_drew
attribute [local go_sem high] place_eql place_neq

theorem Blk.ovW {w W : World} {p : Nat} {cs : List Value} {t : TypeId} (h : Blk w p cs t) (hW : ∃ e, W = over w e) : Blk W p cs t := by obtain ⟨e, rfl⟩ := hW; exact h.on e
theorem bk_base {base : Nat} {w : World} {b n sz mb : Nat} {L : List Se} (h : BkAt base w b n sz mb L) : base ≤ w.heap.size := Nat.le_trans h.lo.1 (Nat.le_of_lt h.blk.lt)
theorem FiOk.ov {w W : World} {f : Fi} (h : FiOk w f) (hW : ∃ e, W = over w e) : FiOk W f := ⟨h.id, h.pc, h.pb, h.pn, h.ct, Sl.ov h.s hW, h.lt, h.len, h.n⟩
theorem Laid.get_le {W : World} {base b mb sz : Nat} {L : List Se} {S : List (Nat × Sr)} {rs : List Rs} (h : Laid W base b mb sz L S rs) (id : Nat) : SrOk (getS S id) ∧ (getS S id).all.length ≤ 60 ∧ (getS S id).cl.length ≤ 60 := by
  have h1 : SrOk (getS S id) := by rw [← h.eq]; exact getS_ok h.bk id
  have h2 : (getS S id).all.length ≤ 60 := getS_mem (P := fun s => s.all.length ≤ 60) (fun x hx => (h.I.all x hx).1) (by simp [Sr.all, Sr.zero]) id
  exact ⟨h1, h2, cl_le h1 h2⟩
set_option maxRecDepth 100000 in
set_option maxHeartbeats 4000000 in
theorem bookRefuses_any (size : Int) (hz : -9223372036854775808 ≤ size ∧ size ≤ 9223372036854775807) (xs : List Opr) (hx : ∀ o ∈ xs, o.wf) (a : Option Addr) (cap : Nat) (f : Fi) (x : Sm) (hxw : x.wf) (w : World) (hT : TabW w) (hs : SlO w a cap xs) (hf : FiIn w f) :
    Calls Tryd.prog 4 #[.int .i64 size, .slice a xs.length cap, f.v, smV x.t x.v] w (Ret w (.bool true)) := by
  have HHv := hid (fun W (hW : SlO W a cap xs) => heavy_any xs a cap W hW)
  have HKn := hid (fun W (hW : TabW W) => known_any W hW)
  obtain ⟨H, hH⟩ : ∃ H, heavyB xs = H := ⟨_, rfl⟩
  rw [hH] at HHv
  have HFI := hid hf
  cases H with
  | true =>
    obtain ⟨kd, ep, id, pc, pb, pn, ct, cl, sm, fa, fcap, bs, N⟩ := f
    go_enter Tryd.func4, Tryd.ntmps4
    go_wp2_with (first | (go_at_call 5; (with_reducible refine (HHv.out _ (by exact slA hs)).mono ?_); rintro _ _ ⟨⟨e1, rfl⟩, rfl⟩) | (go_at_call 6; (with_reducible refine (HKn.out _ (by exact tabA hT)).mono ?_); rintro _ _ ⟨⟨e2, rfl⟩, rfl⟩))
    go_ret
    exact ⟨(by (try unfold Ov); exact ovA), rfl⟩
  | false =>
    by_cases h600 : 600 < f.bs.length
    · have hd : decide (600 < f.bs.length) = true := decide_eq_true h600
      obtain ⟨kd, ep, id, pc, pb, pn, ct, cl, sm, fa, fcap, bs, N⟩ := f
      simp only at hd h600
      go_enter Tryd.func4, Tryd.ntmps4
      go_wp2_with (first | (go_at_call 5; (with_reducible refine (HHv.out _ (by exact slA hs)).mono ?_); rintro _ _ ⟨⟨e1, rfl⟩, rfl⟩) | (go_at_call 6; (with_reducible refine (HKn.out _ (by exact tabA hT)).mono ?_); rintro _ _ ⟨⟨e2, rfl⟩, rfl⟩))
      go_ret
      exact ⟨(by (try unfold Ov); exact ovA), rfl⟩
    have hd600 : decide (600 < f.bs.length) = false := decide_eq_false h600
    have hl := heavy_len hH
    have HLay := hid (fun W (h1 : TabW W) (h2 : SlO W a cap xs) => layB_any size hz xs hx hl a cap W h1 h2)
    have hsz := lsz_ok size
    obtain ⟨sz, hsz0⟩ : ∃ sz, lsz size = sz := ⟨_, rfl⟩
    rw [hsz0] at HLay hsz
    have hol : (opsL xs).length ≤ 60 := by simp [opsL]; exact hl
    obtain ⟨ops, hops⟩ : ∃ ops, opsL xs = ops := ⟨_, rfl⟩
    rw [hops] at HLay hol
    have hTw := hT
    have hsw := hs
    clear hx hH hops hsz0
    have HW := hid hxw
    obtain ⟨xt, xv⟩ := x
    clear hxw
    have hf2 := hf.ok (by omega)
    have HF := hid hf2
    clear hf2 hf
    obtain ⟨kd, ep, id, pc, pb, pn, ct, cl, sm, fa, fcap, bs, N⟩ := f
    simp only at hd600 h600
    go_enter Tryd.func4, Tryd.ntmps4
    go_upto_region 1 with (fail)
    refine gen_w ?_
    intro W0 hW0
    obtain ⟨p6, hp6⟩ : ∃ p, p = w.heap.size := ⟨_, rfl⟩
    have B6 : Hid (Blk W0 p6 [.int .u8 kd, .int .u32 ep, .int .u32 (id : Nat), .int .u32 (pc : Nat), .int .u32 (pb : Nat), .int .u32 (pn : Nat), .int .u32 (ct : Nat), .bool cl, .int .u64 sm, .slice fa bs.length fcap, .int .i64 N] 46) := hid (by rw [hW0, hp6]; exact Blk.alloc (Blk.new' (by simp)) _)
    have B7 : Hid (Blk W0 (p6 + 1) [.int .i64 xt, .int .u64 (xv : Nat)] 49) := hid (by rw [hW0, hp6]; exact Blk.new' (by simp))
    have O0 : Hid (∃ e, W0 = over w e) := hid (by rw [hW0]; exact (by (try unfold Ov); exact ovA))
    have hs0 : SlO W0 a cap xs := Sl.ov hs O0.out
    have hT0 : TabW W0 := TabW.ov hT O0.out
    rw [← hp6]
    clear hW0 hp6
    have r9 := B6.out.cell 9 rfl
    have l6 := B6.out.lt
    go_upto_region 4 with (first
      | (go_at_call 5; (with_reducible refine (HHv.out _ (by exact slA hs0)).mono ?_); rintro _ _ ⟨⟨e1, rfl⟩, rfl⟩)
      | (go_at_call 6; (with_reducible refine (HKn.out _ (by exact tabA hT0)).mono ?_); rintro _ _ ⟨⟨e2, rfl⟩, rfl⟩)
      | (go_at_call 7
         (with_reducible refine (HLay.out _ (by exact tabA hT0) (by exact slA hs0)).mono ?_)
         rintro _ W1 ⟨b, mb, L, al, cL, rs, rfl, ⟨e3, hW1⟩, hb, he, hsl, hrow, hmap⟩
         have O1 : Hid (∃ e, W1 = over W0 e) := hid (by rw [hW1]; exact (by (try unfold Ov); exact ovA))
         have hLd := laid_of hsz.1 hol hb he hmap
         have HL := hid hLd
         have HSL := hid hsl
         have HBA : Hid (∀ k ∈ bkB b mb L, W0.heap.size ≤ k) := hid (fun k hk => by have := (BkAt.blt hb k hk).1; simp at this; omega)
         have hrl : rs.length ≤ 60 := by rw [hLd.len]; exact hLd.I.len
         have hLl : L.length = rs.length := by rw [hLd.len, ← hLd.eq]; simp
         have hs1 := Sl.ov hs0 O1.out
         have hT1 := TabW.ov hT0 O1.out
         clear hW1 hb he hmap hLd hsl hrow))
    go_upto_region 5 with (
         (go_at_call 7)
         (with_reducible refine (HLay.out _ (by exact tabA hT1) (by exact slA hs1)).mono ?_)
         rintro _ W2 ⟨b2, mb2, L2, al2, cL2, rs2, rfl, ⟨e4, hW2⟩, hb, he, hsl, hrow, hmap⟩
         have O2 : Hid (∃ e, W2 = over W1 e) := hid (by rw [hW2]; exact (by (try unfold Ov); exact ovA))
         have hLd := laid_of hsz.1 hol hb he hmap
         have HL2 := hid hLd
         have hs2 := Sl.ov hs1 O2.out
         have hT2 := TabW.ov hT1 O2.out
         clear hW2 hb he hmap hLd hsl hrow)
    have BA : Hid (∀ W, (∃ e, W = over W2 e) → BkAt _ W b 64 sz mb L) := hid (fun W hW => bk_ov HL.out.bk (ov_tr O2.out hW))
    have BB : Hid (∀ W, (∃ e, W = over W2 e) → BkAt _ W b2 64 sz mb2 L2) := hid (fun W hW => bk_ov HL2.out.bk hW)
    obtain ⟨hok, hall, hcl⟩ := HL.out.get_le id
    have hsA : getS (bkOf L) id = getS (layS sz ops) id := by rw [HL.out.eq]
    obtain ⟨s, hs0⟩ : ∃ s, getS (layS sz ops) id = s := ⟨_, rfl⟩
    rw [hs0] at hok hall hcl hsA
    have F2 : FiOk W2 ⟨kd, ep, id, pc, pb, pn, ct, cl, sm, fa, fcap, bs, N⟩ := HF.out.ov (ov_tr (ov_tr O0.out O1.out) O2.out)
    obtain ⟨er, cs, hc⟩ := takeB_ex hok sz _ F2
    have hfin := takeB_fin hsz.2 hc
    have HFit := hid (fun W (hW : ∃ e, W = over W2 e) => fits_any (BA.out W hW) (TabW.ov hT2 hW) (by omega) (by omega) hsz.2 _ (F2.ov hW) hsA (by omega) hc)
    have hbw : ∀ W, (∃ e, W = over W2 e) → W0.heap.size ≤ W.heap.size := fun W hW => by
      obtain ⟨e, he⟩ := ov_tr (ov_tr O1.out O2.out) hW
      rw [he]; simp
    have HTk := hid (fun W (hW : ∃ e, W = over W2 e) => take_any (BA.out W hW) (bk_base (BA.out W hW)) (TabW.ov hT2 hW) (by omega) (by omega) hsz _ (F2.ov hW) hsA (by omega) hc)
    have HMay := hid (fun W (hW : ∃ e, W = over W2 e) => may_any (BA.out W hW) (by omega) (by omega) id hsA (by omega) xt xv)
    have HPut := hid (fun W (hW : ∃ e, W = over W2 e) => put_any (BA.out W hW) (bk_base (BA.out W hW)) (TabW.ov hT2 hW) (by omega) (by omega) hsz.2 hsz.1 HF.out.id (by rw [hsA]; omega) ⟨xt, xv⟩ HW.out)
    unfold PutB at HPut
    rw [hsA] at HPut
    simp only at HFit HTk
    have hbA : ∀ k ∈ bkF mb L, W0.heap.size ≤ k := fun k hk => HBA.out k (bkF_B hk)
    have HOV := hid (fun W w' (hW : ∃ e, W = over W2 e) (hc : Chg (bkF mb L) W w') => (Chg.ov (ov_tr (ov_tr O1.out O2.out) hW) hc hbA : ∃ e, w' = over W0 e))
    have B6 := hid (Blk.ovW B6.out (ov_tr O1.out O2.out))
    have B7 := hid (Blk.ovW B7.out (ov_tr O1.out O2.out))
    clear r9 l6 hbA hc hsA hs0 hbw F2 hok
    have r0 := B6.out.cell 0 rfl
    have r1 := B6.out.cell 1 rfl
    have r2 := B6.out.cell 2 rfl
    have r3 := B6.out.cell 3 rfl
    have r4 := B6.out.cell 4 rfl
    have r5 := B6.out.cell 5 rfl
    have r6 := B6.out.cell 6 rfl
    have r7 := B6.out.cell 7 rfl
    have r8 := B6.out.cell 8 rfl
    have r9 := B6.out.cell 9 rfl
    have r10 := B6.out.cell 10 rfl
    have l6 := B6.out.lt
    have y0 := B7.out.cell 0 rfl
    have y1 := B7.out.cell 1 rfl
    have l7 := B7.out.lt
    rcases hfin with ⟨her, rfl⟩ | ⟨rfl, _⟩
    · have hn0 : er ≠ 0 := by omega
      have k1 : ((er : Int) == 0) = false := beq_eq_false_iff_ne.2 (by omega)
      have k2 : ((er : Int) != 0) = true := by simp; omega
      have HTk' := hid (fun W (hW : ∃ e, W = over W2 e) => (HTk.out W hW).mono (fun en w' hp => by
        unfold TakePost at hp
        rw [if_neg hn0] at hp
        exact hp))
      clear HTk
      by_cases hm : s.may xt
      · rw [if_pos hm] at HMay
        have HPut' := hid (fun W (hW : ∃ e, W = over W2 e) => (HPut.out W hW).mono (fun en w' hp => by
          rw [if_pos hm] at hp
          obtain ⟨h1, L', h2, _⟩ := hp
          exact (⟨h1, HOV.out W w' hW h2⟩ : en = .returned (.int .u16 0) ∧ ∃ e, w' = over W0 e)))
        clear HPut
        go_wp2_with (first
          | (go_at_call 12; (with_reducible refine (HFit.out _ (by (try unfold Ov); exact ovA)).mono ?_); rintro _ _ ⟨⟨e5, rfl⟩, rfl⟩)
          | (go_at_call 13; (with_reducible refine (HTk'.out _ (by (try unfold Ov); exact ovA)).mono ?_); rintro _ _ ⟨⟨e6, rfl⟩, rfl⟩)
          | (go_at_call 14; (with_reducible refine (HMay.out _ (by (try unfold Ov); exact ovA)).mono ?_); rintro _ _ ⟨⟨e7, rfl⟩, rfl⟩)
          | (go_at_call 15; (with_reducible refine (HPut'.out _ (by (try unfold Ov); exact ovA)).mono ?_); rintro _ _ ⟨rfl, ⟨e8, rfl⟩⟩))
        go_ret
        exact ⟨(by (try unfold Ov); exact ovB O0.out), rfl⟩
      · rw [if_neg hm] at HMay
        have HPut' := hid (fun W (hW : ∃ e, W = over W2 e) => (HPut.out W hW).mono (fun en w' hp => by
          rw [if_neg hm] at hp
          exact hp))
        clear HPut
        go_wp2_with (first
          | (go_at_call 12; (with_reducible refine (HFit.out _ (by (try unfold Ov); exact ovA)).mono ?_); rintro _ _ ⟨⟨e5, rfl⟩, rfl⟩)
          | (go_at_call 13; (with_reducible refine (HTk'.out _ (by (try unfold Ov); exact ovA)).mono ?_); rintro _ _ ⟨⟨e6, rfl⟩, rfl⟩)
          | (go_at_call 14; (with_reducible refine (HMay.out _ (by (try unfold Ov); exact ovA)).mono ?_); rintro _ _ ⟨⟨e7, rfl⟩, rfl⟩)
          | (go_at_call 15; (with_reducible refine (HPut'.out _ (by (try unfold Ov); exact ovA)).mono ?_); rintro _ _ ⟨⟨e8, rfl⟩, rfl⟩))
        refine gen_w ?_
        intro W3 hW3
        have O3 : Hid (∃ e, W3 = over W2 e) := hid (by rw [hW3]; exact (by (try unfold Ov); exact ovA))
        have HSer := hid (fun W (hW : ∃ e, W = over W2 e) => series_any (BA.out W hW) (by omega))
        obtain ⟨ks, hks⟩ : ∃ ks, srtN (L.map (·.id)) = ks := ⟨_, rfl⟩
        have hkl : ks.length = rs.length := by rw [← hks, srtN_len]; simp [hLl]
        rw [hks] at HSer
        clear hW3 hks HFit HTk' HMay HPut' r0 r1 r2 r3 r4 r5 r6 r7 r8 r9 r10 l6 y0 y1 l7
        go_loopw [17] (fun i wr => ∃ k : Nat, k ≤ rs.length ∧ i = .int .i64 (k : Nat) ∧ Ov W3 wr) (fun i _ => rs.length - (intOf i).toNat)
        case atStart => exact ⟨0, Nat.zero_le _, rfl, over_self _⟩
        case round =>
          obtain ⟨k, hk, rfl, ⟨e0, rfl⟩⟩ := hrel
          by_cases hlt : k < rs.length
          · obtain ⟨bl, off, rfl, hbl, x0, _⟩ := SlR.at_ HSL.out hlt
            obtain ⟨id2, s2, hK⟩ := HL.out.k hlt
            rw [hK.nid hlt] at x0
            have hcl2 := hK.cl
            have hall2 := hK.all
            have hgB : getS (bkOf L2) id2 = s2 := by rw [HL2.out.eq, ← HL.out.eq]; exact hK.get
            have HSmpA := hid (fun W (hW : ∃ e, W = over W2 e) => samples_any (BA.out W hW) (TabW.ov hT2 hW) id2 hK.get (by omega) (by omega))
            have HSmpB := hid (fun W (hW : ∃ e, W = over W2 e) => samples_any (BB.out W hW) (TabW.ov hT2 hW) id2 hgB (by omega) (by omega))
            have HSame := hid (fun A C B D W (h1 : SlM W A C s2.all) (h2 : SlM W B D s2.all) => rcsame_any s2.all s2.all (by omega) A C B D W h1 h2)
            rw [decide_eq_true rfl] at HSame
            obtain ⟨⟨fc, fb, fn⟩, hfin2⟩ : ∃ f, s2.fin = f := ⟨_, rfl⟩
            have HEndA : Hid (∀ W, (∃ e, W = over W2 e) → Calls Tryd.prog 16 #[.pointer (some ⟨b, 0, none⟩), .int .u32 (id2 : Nat)] W (Ret W (.agg #[.int .u32 (fc : Nat), .int .u32 (fb : Nat), .int .u32 (fn : Nat)]))) := hid (fun W hW => by
              have k := bend_any (BA.out W hW) id2 (by rw [hK.get]; omega)
              rw [hK.get, hfin2] at k
              exact k)
            have HEndB : Hid (∀ W, (∃ e, W = over W2 e) → Calls Tryd.prog 16 #[.pointer (some ⟨b2, 0, none⟩), .int .u32 (id2 : Nat)] W (Ret W (.agg #[.int .u32 (fc : Nat), .int .u32 (fb : Nat), .int .u32 (fn : Nat)]))) := hid (fun W hW => by
              have k := bend_any (BB.out W hW) id2 (by rw [hgB]; omega)
              rw [hgB, hfin2] at k
              exact k)
            have O13 := ov_tr O2.out O3.out
            have hb0 : bl < W3.heap.size := by obtain ⟨e, he⟩ := O13; rw [he]; simp; omega
            have y0 : W3.cell? ⟨bl, off + k * 2, none⟩ = some (.int .u32 (id2 : Nat)) := by obtain ⟨e, he⟩ := O13; rw [he, cell_over _ _ _ _ hbl]; exact x0
            obtain ⟨sl, hsl⟩ : ∃ l, s2.all = l := ⟨_, rfl⟩
            rw [hsl] at HSmpA HSmpB HSame
            obtain ⟨ll, hll⟩ : ∃ l, sl.length = l := ⟨_, rfl⟩
            rw [hll] at HSame
            have HLL := hid hll
            clear hK hgB hfin2 O13 x0 hsl hll
            go_wp2
            refine M2.wp_region_mix [6, 13, 14, 23, 30] 33 (by kernel_rfl) (by kernel_rfl) (by decide) ?_
            simp only [List.take_succ_cons, List.take_zero, List.drop_succ_cons, List.drop_zero]
            with_reducible refine M2.mixL_quiet 6 (by kernel_rfl) ?_
            simp only [List.take_succ_cons, List.take_zero, List.drop_succ_cons, List.drop_zero]
            repeat (go_big_quiet_step (fail))
            with_reducible refine wpQuiet_nil ?_
            with_reducible refine M2.mixL_eff (by decide) ?_
            go_wp2_with ((first | (go_at_call 10; (with_reducible refine (HSmpA.out _ (by (try unfold Ov); exact ovB O3.out)).mono ?_); rintro _ _ ⟨⟨e6, rfl⟩, v6, rfl, o6⟩; obtain ⟨a6, c6, rfl, sx6⟩ := Own.slice Sm.cs_len o6; (try simp only [over_drew] at sx6); have S6 := hid sx6; (try rw [HLL.out]); clear o6 sx6) | (go_at_call 10; (with_reducible refine (HSmpB.out _ (by (try unfold Ov); exact ovB O3.out)).mono ?_); rintro _ _ ⟨⟨e7, rfl⟩, v7, rfl, o7⟩; obtain ⟨a7, c7, rfl, sx7⟩ := Own.slice Sm.cs_len o7; (try simp only [over_drew] at sx7); have S7 := hid sx7; (try rw [HLL.out]); clear o7 sx7) | (go_at_call 9; (with_reducible refine (HSame.out _ _ _ _ _ (by exact slA S6.out) (by exact slA S7.out)).mono ?_); rintro _ _ ⟨⟨e8, rfl⟩, rfl⟩) | (go_at_call 16; (with_reducible refine (HEndA.out _ (by (try unfold Ov); exact ovB O3.out)).mono ?_); rintro _ _ ⟨⟨e9, rfl⟩, rfl⟩) | (go_at_call 16; (with_reducible refine (HEndB.out _ (by (try unfold Ov); exact ovB O3.out)).mono ?_); rintro _ _ ⟨⟨e10, rfl⟩, rfl⟩)))
            refine M2.MixQ.mk (by (try unfold Ov); exact ovA) ?_
            with_reducible refine M2.mixL_quiet 6 (by kernel_rfl) ?_
            simp only [List.take_succ_cons, List.take_zero, List.drop_succ_cons, List.drop_zero]
            repeat (go_big_quiet_step (fail))
            with_reducible refine wpQuiet_nil ?_
            with_reducible refine M2.mixL_eff (by decide) ?_
            go_wp2_with ((first | (go_at_call 10; (with_reducible refine (HSmpA.out _ (by (try unfold Ov); exact ovB O3.out)).mono ?_); rintro _ _ ⟨⟨e6, rfl⟩, v6, rfl, o6⟩; obtain ⟨a6, c6, rfl, sx6⟩ := Own.slice Sm.cs_len o6; (try simp only [over_drew] at sx6); have S6 := hid sx6; (try rw [HLL.out]); clear o6 sx6) | (go_at_call 10; (with_reducible refine (HSmpB.out _ (by (try unfold Ov); exact ovB O3.out)).mono ?_); rintro _ _ ⟨⟨e7, rfl⟩, v7, rfl, o7⟩; obtain ⟨a7, c7, rfl, sx7⟩ := Own.slice Sm.cs_len o7; (try simp only [over_drew] at sx7); have S7 := hid sx7; (try rw [HLL.out]); clear o7 sx7) | (go_at_call 9; (with_reducible refine (HSame.out _ _ _ _ _ (by exact slA S6.out) (by exact slA S7.out)).mono ?_); rintro _ _ ⟨⟨e8, rfl⟩, rfl⟩) | (go_at_call 16; (with_reducible refine (HEndA.out _ (by (try unfold Ov); exact ovB O3.out)).mono ?_); rintro _ _ ⟨⟨e9, rfl⟩, rfl⟩) | (go_at_call 16; (with_reducible refine (HEndB.out _ (by (try unfold Ov); exact ovB O3.out)).mono ?_); rintro _ _ ⟨⟨e10, rfl⟩, rfl⟩)))
            refine M2.MixQ.mk (by (try unfold Ov); exact ovA) ?_
            with_reducible refine M2.mixL_eff (by decide) ?_
            go_wp2_with ((first | (go_at_call 10; (with_reducible refine (HSmpA.out _ (by (try unfold Ov); exact ovB O3.out)).mono ?_); rintro _ _ ⟨⟨e6, rfl⟩, v6, rfl, o6⟩; obtain ⟨a6, c6, rfl, sx6⟩ := Own.slice Sm.cs_len o6; (try simp only [over_drew] at sx6); have S6 := hid sx6; (try rw [HLL.out]); clear o6 sx6) | (go_at_call 10; (with_reducible refine (HSmpB.out _ (by (try unfold Ov); exact ovB O3.out)).mono ?_); rintro _ _ ⟨⟨e7, rfl⟩, v7, rfl, o7⟩; obtain ⟨a7, c7, rfl, sx7⟩ := Own.slice Sm.cs_len o7; (try simp only [over_drew] at sx7); have S7 := hid sx7; (try rw [HLL.out]); clear o7 sx7) | (go_at_call 9; (with_reducible refine (HSame.out _ _ _ _ _ (by exact slA S6.out) (by exact slA S7.out)).mono ?_); rintro _ _ ⟨⟨e8, rfl⟩, rfl⟩) | (go_at_call 16; (with_reducible refine (HEndA.out _ (by (try unfold Ov); exact ovB O3.out)).mono ?_); rintro _ _ ⟨⟨e9, rfl⟩, rfl⟩) | (go_at_call 16; (with_reducible refine (HEndB.out _ (by (try unfold Ov); exact ovB O3.out)).mono ?_); rintro _ _ ⟨⟨e10, rfl⟩, rfl⟩)))
            refine M2.MixQ.mk (by (try unfold Ov); exact ovA) ?_
            with_reducible refine M2.mixL_quiet 8 (by kernel_rfl) ?_
            simp only [List.take_succ_cons, List.take_zero, List.drop_succ_cons, List.drop_zero]
            repeat (go_big_quiet_step (fail))
            with_reducible refine wpQuiet_nil ?_
            with_reducible refine M2.mixL_eff (by decide) ?_
            go_wp2_with ((first | (go_at_call 10; (with_reducible refine (HSmpA.out _ (by (try unfold Ov); exact ovB O3.out)).mono ?_); rintro _ _ ⟨⟨e6, rfl⟩, v6, rfl, o6⟩; obtain ⟨a6, c6, rfl, sx6⟩ := Own.slice Sm.cs_len o6; (try simp only [over_drew] at sx6); have S6 := hid sx6; (try rw [HLL.out]); clear o6 sx6) | (go_at_call 10; (with_reducible refine (HSmpB.out _ (by (try unfold Ov); exact ovB O3.out)).mono ?_); rintro _ _ ⟨⟨e7, rfl⟩, v7, rfl, o7⟩; obtain ⟨a7, c7, rfl, sx7⟩ := Own.slice Sm.cs_len o7; (try simp only [over_drew] at sx7); have S7 := hid sx7; (try rw [HLL.out]); clear o7 sx7) | (go_at_call 9; (with_reducible refine (HSame.out _ _ _ _ _ (by exact slA S6.out) (by exact slA S7.out)).mono ?_); rintro _ _ ⟨⟨e8, rfl⟩, rfl⟩) | (go_at_call 16; (with_reducible refine (HEndA.out _ (by (try unfold Ov); exact ovB O3.out)).mono ?_); rintro _ _ ⟨⟨e9, rfl⟩, rfl⟩) | (go_at_call 16; (with_reducible refine (HEndB.out _ (by (try unfold Ov); exact ovB O3.out)).mono ?_); rintro _ _ ⟨⟨e10, rfl⟩, rfl⟩)))
            refine M2.MixQ.mk (by (try unfold Ov); exact ovA) ?_
            with_reducible refine M2.mixL_quiet 6 (by kernel_rfl) ?_
            simp only [List.take_succ_cons, List.take_zero, List.drop_succ_cons, List.drop_zero]
            repeat (go_big_quiet_step (fail))
            with_reducible refine wpQuiet_nil ?_
            with_reducible refine M2.mixL_eff (by decide) ?_
            go_wp2_with ((first | (go_at_call 10; (with_reducible refine (HSmpA.out _ (by (try unfold Ov); exact ovB O3.out)).mono ?_); rintro _ _ ⟨⟨e6, rfl⟩, v6, rfl, o6⟩; obtain ⟨a6, c6, rfl, sx6⟩ := Own.slice Sm.cs_len o6; (try simp only [over_drew] at sx6); have S6 := hid sx6; (try rw [HLL.out]); clear o6 sx6) | (go_at_call 10; (with_reducible refine (HSmpB.out _ (by (try unfold Ov); exact ovB O3.out)).mono ?_); rintro _ _ ⟨⟨e7, rfl⟩, v7, rfl, o7⟩; obtain ⟨a7, c7, rfl, sx7⟩ := Own.slice Sm.cs_len o7; (try simp only [over_drew] at sx7); have S7 := hid sx7; (try rw [HLL.out]); clear o7 sx7) | (go_at_call 9; (with_reducible refine (HSame.out _ _ _ _ _ (by exact slA S6.out) (by exact slA S7.out)).mono ?_); rintro _ _ ⟨⟨e8, rfl⟩, rfl⟩) | (go_at_call 16; (with_reducible refine (HEndA.out _ (by (try unfold Ov); exact ovB O3.out)).mono ?_); rintro _ _ ⟨⟨e9, rfl⟩, rfl⟩) | (go_at_call 16; (with_reducible refine (HEndB.out _ (by (try unfold Ov); exact ovB O3.out)).mono ?_); rintro _ _ ⟨⟨e10, rfl⟩, rfl⟩)))
            refine M2.MixQ.mk (by (try unfold Ov); exact ovA) ?_
            with_reducible refine M2.mixL_quiet 2 (by kernel_rfl) ?_
            simp only [List.take_succ_cons, List.take_zero, List.drop_succ_cons, List.drop_zero]
            repeat (go_big_quiet_step (fail))
            with_reducible refine wpQuiet_nil ?_
            with_reducible refine M2.mixL_nil ?_
            with_reducible refine M2.mixL_nil ?_
            go_wp2
            go_roundw
            case rel => exact ⟨k + 1, by omega, by go_num, (by (try unfold Ov); exact ovA)⟩
            case measure => (simp [intOf]; try omega)
          · obtain rfl : k = rs.length := by omega
            go_wp2_with (go_at_call 8; (with_reducible refine (HSer.out _ (by (try unfold Ov); exact ovB O3.out)).mono ?_); rintro _ _ ⟨⟨e12, rfl⟩, v12, rfl, o12⟩; obtain ⟨a12, c12, rfl, _⟩ := Own.slice wcs_len o12; rw [hkl]; clear o12)
            go_ret
            have OO := ov_tr (ov_tr (ov_tr O0.out O1.out) O2.out) O3.out
            exact ⟨(by (try unfold Ov); exact ovB OO), rfl⟩
    · have HTk' := hid (fun W (hW : ∃ e, W = over W2 e) => (HTk.out W hW).mono (fun en w' hp => by
        unfold TakePost at hp
        rw [if_pos rfl] at hp
        exact (⟨hp.1, HOV.out W w' hW hp.2.1⟩ : en = .returned (.int .u16 0) ∧ ∃ e, w' = over W0 e)))
      clear HTk
      go_wp2_with (first
        | (go_at_call 12; (with_reducible refine (HFit.out _ (by (try unfold Ov); exact ovA)).mono ?_); rintro _ _ ⟨⟨e5, rfl⟩, rfl⟩)
        | (go_at_call 13; (with_reducible refine (HTk'.out _ (by (try unfold Ov); exact ovA)).mono ?_); rintro _ _ ⟨rfl, ⟨e6, rfl⟩⟩))
      go_ret
      exact ⟨(by (try unfold Ov); exact ovB O0.out), rfl⟩
end Go.Proofs.YtojkoijdndinoaaDoor
