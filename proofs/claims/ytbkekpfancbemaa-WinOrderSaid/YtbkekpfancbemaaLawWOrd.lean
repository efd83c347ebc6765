/- The law WinOrder holds: for every list of calls the call returns true, and the arguments read as they did. -/
import Derived.Test.YtbkekpfancbemaaWinO
namespace Go.Proofs.Ytbkekpfancbemaa
set_option linter.unusedVariables false
set_option linter.unusedSimpArgs false
open Go.RowKit

theorem cons_sub {α : Type} {x y : α} {l r : List α} (h : (x :: l).Sublist (y :: r)) (hne : ¬ y = x) : (x :: l).Sublist r := by
  cases h with
  | cons _ h => exact h
  | cons_cons _ h => exact absurd rfl hne
theorem sub_get {xs came : List Pc} {k i : Nat} (h : (xs.drop k).Sublist (came.drop i)) (hk : k < xs.length) (hi : i < came.length) (he : came[i] = xs[k]) : (xs.drop (k + 1)).Sublist (came.drop (i + 1)) := by
  rw [List.drop_eq_getElem_cons hk, List.drop_eq_getElem_cons hi, he] at h
  exact List.cons_sublist_cons.1 h
theorem sub_skip {xs came : List Pc} {k i : Nat} (h : (xs.drop k).Sublist (came.drop i)) (hk : k < xs.length) (hi : i < came.length) (he : ¬ came[i] = xs[k]) : (xs.drop k).Sublist (came.drop (i + 1)) := by
  rw [List.drop_eq_getElem_cons hi] at h
  rw [List.drop_eq_getElem_cons hk] at h ⊢
  exact cons_sub h he
theorem sub_end {xs came : List Pc} {k i : Nat} (h : (xs.drop k).Sublist (came.drop i)) (hi : ¬ i < came.length) : xs.length ≤ k := by
  rw [List.drop_of_length_le (l := came) (by omega)] at h
  have := List.sublist_nil.1 h
  have := congrArg List.length this
  simp at this; omega
theorem eql_piece (W : World) (x y : Pc) : (binOp .eql 32 x.v y.v).run Try.prog W = .ok (.bool (decide (x = y))) W := by
  obtain ⟨s, ⟨a, b, c⟩, ⟨d, e, f⟩, n⟩ := x
  obtain ⟨s', ⟨a', b', c'⟩, ⟨d', e', f'⟩, n'⟩ := y
  simp [go_sem]
  (repeat' split) <;> simp_all

theorem apart_new {F F' : List Nat} {w : World} {c : Value} (h : ∀ g, c.ownBlock = some g → g ∉ F) (hl : ∀ g, c.ownBlock = some g → g < w.heap.size) (hf : ∀ k ∈ F', k ∈ F ∨ w.heap.size ≤ k) : ∀ g, c.ownBlock = some g → g ∉ F' := fun g hg hm => by
  rcases hf g hm with h1 | h1
  · exact h g hg h1
  · have := hl g hg; omega

set_option maxRecDepth 100000 in
set_option maxHeartbeats 8000000 in
theorem winOrder_any (os : List Wo) (hwf : ∀ o ∈ os, o.wf) (a : Option Addr) (cap : Nat) (w : World) (hs : SlW w a cap os) :
    Calls Try.prog 4 #[.slice a os.length cap] w (Ret w (.bool true)) := by
  have hmax := len_max hs
  have HK := hid known13_any
  cases hl : decide (80 < os.length)
  · have hle : os.length ≤ 80 := by have := of_decide_eq_false hl; omega
    clear hl
    have HN := hid (fun W => winNew_yes 1048576 (by omega) (by omega) w.heap.size W)
    have hok : Hid (winOk 1048576 []) := hid ⟨by simp [okPs], by simp [sumN], by omega⟩
    go_enter Try.func4, Try.ntmps4
    go_wp2_with (first
      | (go_at_call 16; (with_reducible refine (HK.out _).mono ?_); rintro _ _ ⟨⟨e1, rfl⟩, rfl⟩)
      | (go_at_call 18; (with_reducible refine (HN.out _ (by simp)).mono ?_); rintro _ _ ⟨rfl, rfl⟩))
    have HW1 := hid (show WinAt w.heap.size ((over w e1).alloc (.cells #[.int .i64 1048576, .int .i64 0, .slice none 0 0] 78)) (over w e1).heap.size 1048576 [] [(over w e1).heap.size] from WinAt.new (by simp))
    simp only [size_over] at HW1
    have hov : Ov w ((over w e1).alloc (.cells #[.int .i64 1048576, .int .i64 0, .slice none 0 0] 78)) := (by (try unfold Ov); repeat (first | with_reducible exact ex_over | with_reducible exact over_self _ | with_reducible refine ex_into ?_ _ | with_reducible refine ex_alloc ?_ _ | with_reducible refine ex_drew ?_ | ((with_reducible refine ex_setCell ?_ ?_ _); rotate_left; (first | omega | (simp; done) | (simp; omega))) | ((with_reducible refine ex_chg ?_ _ ?_); rotate_left; (first | assumption | (exact Hid.out (by assumption)))) | exact ex_over))
    generalize ((over w e1).alloc (.cells #[.int .i64 1048576, .int .i64 0, .slice none 0 0] 78)) = W1 at *
    generalize w.heap.size + e1.heap.size = p at *
    clear HN HK
    go_loopw [4, 5] (fun c i wr => ∃ (k : Nat) (xs cs : List Pc) (F : List Nat), k ≤ os.length ∧ i = .int .i64 k ∧ Ov w wr ∧ Hid (WinAt w.heap.size wr p 1048576 xs F) ∧ Hid (winOk 1048576 xs) ∧ Own w.heap.size 32 8 Pc.cs wr c cs ∧ cs.length ≤ k ∧ Hid (xs.Sublist cs ∧ ∀ g, c.ownBlock = some g → g ∉ F)) (fun _ i _ => os.length - (intOf i).toNat)
    case atStart => exact ⟨0, [], [], _, Nat.zero_le _, rfl, hov, HW1, hok, Own.nil _, Nat.le_refl _, hid ⟨List.Sublist.refl _, by simp [Value.ownBlock]⟩⟩
    case round =>
      clear HW1 hok hov W1
      obtain ⟨k, xs, cs, F, hk, rfl, ⟨e, rfl⟩, HW, Hok, hown, hcl, HSub⟩ := hrel
      have HG := hid HW.out.ge
      by_cases hlt : k < os.length
      · obtain ⟨b, off, rfl, hb, d0, d1, d2, d3, d4, d5, d6, d7, d8⟩ := SlW.at_ hs hlt
        obtain ⟨ac, cc, rfl, hsc⟩ := Own.slice Pc.cs_len hown
        clear hsc
        have hko := (hwf _ (List.getElem_mem hlt)).1
        have hk0 := hko.1
        have hk1 := hko.2
        have nbF : b ∉ F := fun hm => by have := HG.out _ hm; omega
        have hcF := HSub.out.2
        have HcL := hid (fun g (hg : (Value.slice ac cs.length cc).ownBlock = some g) => (Own.lt hown hg))
        have HcG : Hid (∀ i ∈ (Value.slice ac cs.length cc).ownBlock.toList, w.heap.size ≤ i) := hid (fun i hi => (HcL.out i (by simpa using hi)).1)
        have HSs := hid HSub.out.1
        clear hko
        by_cases g1 : os[k].k % 6 = 3 ∨ os[k].k % 6 = 4
        · have HA := hid (fun W (hW : Ov (over w e) W) => winAck_any (HW.out.chg (G := []) (Chg.of_ov hW []) (by simp)) Hok.out os[k].p.s os[k].p.t)
          have HO := hid (winOk_out Hok.out (ackQ os[k].p.s os[k].p.t))
          have HS := hid (show (outW (ackQ os[k].p.s os[k].p.t) xs).Sublist cs from List.filter_sublist.trans HSs.out)
          generalize outW (ackQ os[k].p.s os[k].p.t) xs = ys at *
          unfold Pl.v at HA
          have g : (os[k].k % 6 == 3) = true ∨ ((os[k].k % 6 == 3) = false ∧ (os[k].k % 6 == 4) = true) := by
            rcases g1 with g | g
            · left; simp [g]
            · right; simp [g]
          clear g1
          rcases g with g1 | ⟨g1, g2⟩
          all_goals
            go_wp2_with fail
            refine M2.wp_region_mix [13] 13 (by kernel_rfl) (by kernel_rfl) (by decide) ?_
            simp only [List.take_succ_cons, List.take_zero, List.drop_succ_cons, List.drop_zero]
            refine M2.mixL_quiet 13 (by kernel_rfl) ?_
            simp only [List.take_succ_cons, List.take_zero, List.drop_succ_cons, List.drop_zero]
            repeat (go_big_quiet_step (fail))
            refine wpQuiet_nil ?_
            refine M2.mixL_nil ?_
            refine M2.mixL_eff rfl ?_
            go_wp2_with ((go_at_call 19; (with_reducible refine (HA.out _ (by (try unfold Ov); repeat (first | with_reducible exact ex_over | with_reducible exact over_self _ | with_reducible refine ex_into ?_ _ | with_reducible refine ex_alloc ?_ _ | with_reducible refine ex_drew ?_ | ((with_reducible refine ex_setCell ?_ ?_ _); rotate_left; (first | omega | (simp; done) | (simp; omega))) | ((with_reducible refine ex_chg ?_ _ ?_); rotate_left; (first | assumption | (exact Hid.out (by assumption)))) | exact ex_over))).mono ?_); rintro _ _ ⟨rfl, m, F', rfl, hw, hf⟩; have HF' := hid hf; have HW' := hid hw; clear hw hf))
            refine M2.MixQ.mk trivial ?_
            refine M2.mixL_nil ?_
            go_wp2_with fail
            go_roundw
            case rel => exact ⟨k + 1, _, cs, F', by omega, by go_num, (by (try unfold Ov); repeat (first | with_reducible exact ex_over | with_reducible exact over_self _ | with_reducible refine ex_into ?_ _ | with_reducible refine ex_alloc ?_ _ | with_reducible refine ex_drew ?_ | ((with_reducible refine ex_setCell ?_ ?_ _); rotate_left; (first | omega | (simp; done) | (simp; omega))) | ((with_reducible refine ex_chg ?_ _ ?_); rotate_left; (first | assumption | (exact Hid.out (by assumption)))) | exact ex_over)), HW', HO, (by repeat (first | with_reducible exact hown | ((with_reducible refine Own.set_ne ?_ ?_ _); rotate_left; (first | assumption | (focus (simp; done)) | (focus (simp [Value.ownBlock]; done)) | (focus (simp [Value.ownBlock]; omega)))) | ((with_reducible refine Own.in_some ?_ _ ?_); rotate_left; (first | assumption | (focus (simp; done)) | (focus (simp; omega)))) | ((with_reducible refine Own.in_one ?_ _ ?_); rotate_left; (first | assumption | (focus (simp [Value.ownBlock]; done)) | (focus (simp [Value.ownBlock]; omega)))) | ((with_reducible refine Own.chg ?_ (chg_chg _ _ _) ?_); rotate_left; (first | assumption | (focus (simp; done)) | (focus (simp; omega)))) | with_reducible refine Own.over ?_ _ | with_reducible refine Own.alloc ?_ _ | with_reducible refine Own.drew ?_ | exact hown)), by omega, hid ⟨HS.out, apart_new hcF (fun g hg => by have := (HcL.out g hg).2; simpa using this) HF'.out⟩⟩
            case measure => simp [intOf]; omega
        · have g2 : (os[k].k % 6 == 3) = false := by simp; exact fun h => g1 (.inl h)
          have g3 : (os[k].k % 6 == 4) = false := by simp; exact fun h => g1 (.inr h)
          clear g1
          cases g4 : (os[k].k % 6 == 5)
          · have HA := hid (winAdd_any HW.out Hok.out os[k].p (hwf _ (List.getElem_mem hlt)).2 (by simp))
            have HO := hid (winOk_add Hok.out os[k].p)
            unfold Pc.v at HA
            cases hq : addOk 1048576 xs os[k].p
            · rw [hq] at HA
              have hy : addW 1048576 xs os[k].p = xs := by simp [addW, hq]
              rw [hy] at HA HO
              clear hq hy
              go_wp2_with (go_at_call 21; (with_reducible refine HA.out.mono ?_); rintro _ _ ⟨rfl, m, F', rfl, hw, hf⟩; have HF' := hid hf; have HW' := hid hw; clear hw hf)
              go_roundw
              case rel => exact ⟨k + 1, _, cs, F', by omega, by go_num, (by (try unfold Ov); repeat (first | with_reducible exact ex_over | with_reducible exact over_self _ | with_reducible refine ex_into ?_ _ | with_reducible refine ex_alloc ?_ _ | with_reducible refine ex_drew ?_ | ((with_reducible refine ex_setCell ?_ ?_ _); rotate_left; (first | omega | (simp; done) | (simp; omega))) | ((with_reducible refine ex_chg ?_ _ ?_); rotate_left; (first | assumption | (exact Hid.out (by assumption)))) | exact ex_over)), HW', HO, (by repeat (first | with_reducible exact hown | ((with_reducible refine Own.set_ne ?_ ?_ _); rotate_left; (first | assumption | (focus (simp; done)) | (focus (simp [Value.ownBlock]; done)) | (focus (simp [Value.ownBlock]; omega)))) | ((with_reducible refine Own.in_some ?_ _ ?_); rotate_left; (first | assumption | (focus (simp; done)) | (focus (simp; omega)))) | ((with_reducible refine Own.in_one ?_ _ ?_); rotate_left; (first | assumption | (focus (simp [Value.ownBlock]; done)) | (focus (simp [Value.ownBlock]; omega)))) | ((with_reducible refine Own.chg ?_ (chg_chg _ _ _) ?_); rotate_left; (first | assumption | (focus (simp; done)) | (focus (simp; omega)))) | with_reducible refine Own.over ?_ _ | with_reducible refine Own.alloc ?_ _ | with_reducible refine Own.drew ?_ | exact hown)), by omega, hid ⟨HSs.out, apart_new hcF (fun g hg => by have := (HcL.out g hg).2; simpa using this) HF'.out⟩⟩
              case measure => simp [intOf]; omega
            · rw [hq] at HA
              have hy : addW 1048576 xs os[k].p = xs ++ [os[k].p] := by simp [addW, hq]
              rw [hy] at HA HO
              clear hq hy
              go_wp2_with (first
                | (go_at_call 21; (with_reducible refine HA.out.mono ?_); rintro _ _ ⟨rfl, m, F', rfl, hw, hf⟩; have HF' := hid hf; have HW' := hid hw; clear hw hf)
                | (at_builtin; refine wpList_append' piece_elem Pc.cs_len Pc.cs_one rfl (.tmp 39) (.tmp 45) rfl (base := w.heap.size) (v := .slice ac cs.length cc) (ys := cs) (xs := [os[k].p]) (by repeat (first | with_reducible exact hown | ((with_reducible refine Own.set_ne ?_ ?_ _); rotate_left; (first | assumption | (focus (simp; done)) | (focus (simp [Value.ownBlock]; done)) | (focus (simp [Value.ownBlock]; omega)))) | ((with_reducible refine Own.in_some ?_ _ ?_); rotate_left; (first | assumption | (focus (simp; done)) | (focus (simp; omega)))) | ((with_reducible refine Own.in_one ?_ _ ?_); rotate_left; (first | assumption | (focus (simp [Value.ownBlock]; done)) | (focus (simp [Value.ownBlock]; omega)))) | ((with_reducible refine Own.chg ?_ (chg_chg _ _ _) ?_); rotate_left; (first | assumption | (focus (simp; done)) | (focus (simp; omega)))) | with_reducible refine Own.over ?_ _ | with_reducible refine Own.alloc ?_ _ | with_reducible refine Own.drew ?_ | exact hown)) rfl rfl (by simp; omega) (Sl.one_new (y := os[k].p) (by simp)) (by simp only [List.length_append, List.length_singleton]; unfold maxLen; omega) (by simp only [List.length_append, List.length_singleton]; omega) ?_; intro v' m2 hown' hv'))
              go_roundw
              case rel =>
                have a1 := apart_new hcF (fun g hg => (HcL.out g hg).2) HF'.out
                refine ⟨k + 1, _, _, F', by omega, by go_num, (by (try unfold Ov); repeat (first | with_reducible exact ex_over | with_reducible exact over_self _ | with_reducible refine ex_into ?_ _ | with_reducible refine ex_alloc ?_ _ | with_reducible refine ex_drew ?_ | ((with_reducible refine ex_setCell ?_ ?_ _); rotate_left; (first | omega | (simp; done) | (simp; omega))) | ((with_reducible refine ex_chg ?_ _ ?_); rotate_left; (first | assumption | (exact Hid.out (by assumption)))) | exact ex_over)), hid ((HW'.out.chg (G := []) ((Chg.refl _ _).alloc _) (by simp)).chg (chg_chg _ _ _) (fun i hi hm => a1 i (by simpa using hm) hi)), HO, hown', by simp; omega, hid ⟨HSs.out.append (List.Sublist.refl _), fun g hg hm => ?_⟩⟩
                rcases hv' with hv' | ⟨g', hv', hle⟩
                · exact a1 g (hv' ▸ hg) hm
                · rw [hg] at hv'
                  have : g = g' := by simpa using hv'
                  subst this
                  have := (HW'.out.lt _ hm).2
                  simp at hle this
                  omega
              case measure => simp [intOf]; omega
          · have HA := hid (winDrop_any HW.out Hok.out os[k].p.s)
            have HO := hid (winOk_out Hok.out (dropQ os[k].p.s))
            have HS := hid (show (outW (dropQ os[k].p.s) xs).Sublist cs from List.filter_sublist.trans HSs.out)
            generalize outW (dropQ os[k].p.s) xs = ys at *
            go_wp2_with (go_at_call 20; (with_reducible refine HA.out.mono ?_); rintro _ _ ⟨rfl, m, F', rfl, hw, hf⟩; have HF' := hid hf; have HW' := hid hw; clear hw hf)
            go_roundw
            case rel => exact ⟨k + 1, _, cs, F', by omega, by go_num, (by (try unfold Ov); repeat (first | with_reducible exact ex_over | with_reducible exact over_self _ | with_reducible refine ex_into ?_ _ | with_reducible refine ex_alloc ?_ _ | with_reducible refine ex_drew ?_ | ((with_reducible refine ex_setCell ?_ ?_ _); rotate_left; (first | omega | (simp; done) | (simp; omega))) | ((with_reducible refine ex_chg ?_ _ ?_); rotate_left; (first | assumption | (exact Hid.out (by assumption)))) | exact ex_over)), HW', HO, (by repeat (first | with_reducible exact hown | ((with_reducible refine Own.set_ne ?_ ?_ _); rotate_left; (first | assumption | (focus (simp; done)) | (focus (simp [Value.ownBlock]; done)) | (focus (simp [Value.ownBlock]; omega)))) | ((with_reducible refine Own.in_some ?_ _ ?_); rotate_left; (first | assumption | (focus (simp; done)) | (focus (simp; omega)))) | ((with_reducible refine Own.in_one ?_ _ ?_); rotate_left; (first | assumption | (focus (simp [Value.ownBlock]; done)) | (focus (simp [Value.ownBlock]; omega)))) | ((with_reducible refine Own.chg ?_ (chg_chg _ _ _) ?_); rotate_left; (first | assumption | (focus (simp; done)) | (focus (simp; omega)))) | with_reducible refine Own.over ?_ _ | with_reducible refine Own.alloc ?_ _ | with_reducible refine Own.drew ?_ | exact hown)), by omega, hid ⟨HS.out, apart_new hcF (fun g hg => (HcL.out g hg).2) HF'.out⟩⟩
            case measure => simp [intOf]; omega
      · have hxl := winOk_len Hok.out
        have HP := hid (fun W (hW : Ov (over w e) W) => winPieces_any (HW.out.chg (G := []) (Chg.of_ov hW []) (by simp)) (by omega))
        have HSs := hid HSub.out.1
        obtain ⟨ac, cc, rfl, hsc⟩ := Own.slice Pc.cs_len hown
        have m1 := len_max hsc
        go_wp2_with (go_at_call 22; (with_reducible refine (HP.out _ (by (try unfold Ov); repeat (first | with_reducible exact ex_over | with_reducible exact over_self _ | with_reducible refine ex_into ?_ _ | with_reducible refine ex_alloc ?_ _ | with_reducible refine ex_drew ?_ | ((with_reducible refine ex_setCell ?_ ?_ _); rotate_left; (first | omega | (simp; done) | (simp; omega))) | ((with_reducible refine ex_chg ?_ _ ?_); rotate_left; (first | assumption | (exact Hid.out (by assumption)))) | exact ex_over))).mono ?_); rintro _ _ ⟨⟨e2, rfl⟩, v2, rfl, o2⟩; obtain ⟨a2, c2, rfl, s2⟩ := Own.slice Pc.cs_len o2; clear o2)
        have sc' : SlP (over (over w e) e2) ac cc cs := Sl.over hsc e2
        have hov : Ov w (over (over w e) e2) := (by (try unfold Ov); repeat (first | with_reducible exact ex_over | with_reducible exact over_self _ | with_reducible refine ex_into ?_ _ | with_reducible refine ex_alloc ?_ _ | with_reducible refine ex_drew ?_ | ((with_reducible refine ex_setCell ?_ ?_ _); rotate_left; (first | omega | (simp; done) | (simp; omega))) | ((with_reducible refine ex_chg ?_ _ ?_); rotate_left; (first | assumption | (exact Hid.out (by assumption)))) | exact ex_over))
        clear HP HW hsc hown
        generalize over (over w e) e2 = W4 at *
        have m2 := len_max s2
        have hcl2 : cs.length ≤ 1000000 := by omega
        go_loopw [7, 8] (fun jv iv wr => ∃ (j i : Nat), j ≤ xs.length ∧ i ≤ cs.length ∧ jv = .int .i64 j ∧ iv = .int .i64 i ∧ Ov W4 wr ∧ Hid ((xs.drop j).Sublist (cs.drop i))) (fun _ iv _ => cs.length - (intOf iv).toNat)
        case atStart => exact ⟨0, 0, Nat.zero_le _, Nat.zero_le _, rfl, rfl, over_self _, hid HSs.out⟩
        case round =>
          obtain ⟨j, i, hj, hi, rfl, rfl, ⟨f, rfl⟩, hsub⟩ := hrel
          by_cases hil : i < cs.length
          · by_cases hjl : j < xs.length
            · obtain ⟨b, off, rfl, hb, c0, c1, c2, c3, c4, c5, c6, c7⟩ := SlP.at_ sc' hil
              obtain ⟨b', off', rfl, hb', d0, d1, d2, d3, d4, d5, d6, d7⟩ := SlP.at_ s2 hjl
              have q := fun W => eql_piece W cs[i] xs[j]
              unfold Pc.v at q
              have t1 : decide (i < cs.length) = true := by simp [hil]
              have t2 : decide (j < xs.length) = true := by simp [hjl]
              by_cases he : cs[i] = xs[j]
              · have Hs := hid (sub_get hsub.out hjl hil he)
                rw [show decide (cs[i] = xs[j]) = true by simp [he]] at q
                clear he
                go_wp2_with fail
                refine wp_region_over (by kernel_rfl) (by kernel_rfl) ?_
                repeat (go_big_quiet_step (fail))
                refine wpQuiet_nil ?_
                intro _ hw'
                obtain ⟨nq, rfl⟩ := hw'
                go_wp2_with fail
                go_roundw
                case rel => exact ⟨j + 1, i + 1, by omega, by omega, by go_num, by go_num, (by (try unfold Ov); repeat (first | with_reducible exact ex_over | with_reducible exact over_self _ | with_reducible refine ex_into ?_ _ | with_reducible refine ex_alloc ?_ _ | with_reducible refine ex_drew ?_ | ((with_reducible refine ex_setCell ?_ ?_ _); rotate_left; (first | omega | (simp; done) | (simp; omega))) | ((with_reducible refine ex_chg ?_ _ ?_); rotate_left; (first | assumption | (exact Hid.out (by assumption)))) | exact ex_over)), Hs⟩
                case measure => simp [intOf]; omega
              · have Hs := hid (sub_skip hsub.out hjl hil he)
                rw [show decide (cs[i] = xs[j]) = false by simp [he]] at q
                clear he
                go_wp2_with fail
                refine wp_region_over (by kernel_rfl) (by kernel_rfl) ?_
                repeat (go_big_quiet_step (fail))
                refine wpQuiet_nil ?_
                intro _ hw'
                obtain ⟨nq, rfl⟩ := hw'
                go_wp2_with fail
                go_roundw
                case rel => exact ⟨j, i + 1, by omega, by omega, by go_num, by go_num, (by (try unfold Ov); repeat (first | with_reducible exact ex_over | with_reducible exact over_self _ | with_reducible refine ex_into ?_ _ | with_reducible refine ex_alloc ?_ _ | with_reducible refine ex_drew ?_ | ((with_reducible refine ex_setCell ?_ ?_ _); rotate_left; (first | omega | (simp; done) | (simp; omega))) | ((with_reducible refine ex_chg ?_ _ ?_); rotate_left; (first | assumption | (exact Hid.out (by assumption)))) | exact ex_over)), Hs⟩
                case measure => simp [intOf]; omega
            · obtain rfl : j = xs.length := by omega
              have t1 : decide (i < cs.length) = true := by simp [hil]
              have t2 : decide (xs.length < xs.length) = false := by simp
              go_wp2_with fail
              go_ret
              exact ⟨over_trans hov (by (try unfold Ov); repeat (first | with_reducible exact ex_over | with_reducible exact over_self _ | with_reducible refine ex_into ?_ _ | with_reducible refine ex_alloc ?_ _ | with_reducible refine ex_drew ?_ | ((with_reducible refine ex_setCell ?_ ?_ _); rotate_left; (first | omega | (simp; done) | (simp; omega))) | ((with_reducible refine ex_chg ?_ _ ?_); rotate_left; (first | assumption | (exact Hid.out (by assumption)))) | exact ex_over)), ret_bool (by simp)⟩
          · have hje := sub_end hsub.out hil
            obtain rfl : j = xs.length := by omega
            have t1 : decide (i < cs.length) = false := by simp; omega
            go_wp2_with fail
            go_ret
            exact ⟨over_trans hov (by (try unfold Ov); repeat (first | with_reducible exact ex_over | with_reducible exact over_self _ | with_reducible refine ex_into ?_ _ | with_reducible refine ex_alloc ?_ _ | with_reducible refine ex_drew ?_ | ((with_reducible refine ex_setCell ?_ ?_ _); rotate_left; (first | omega | (simp; done) | (simp; omega))) | ((with_reducible refine ex_chg ?_ _ ?_); rotate_left; (first | assumption | (exact Hid.out (by assumption)))) | exact ex_over)), ret_bool (by simp)⟩
  · have hlt : 80 < os.length := of_decide_eq_true hl
    go_enter Try.func4, Try.ntmps4
    go_wp2_with (go_at_call 16; (with_reducible refine (HK.out _).mono ?_); rintro _ _ ⟨⟨e1, rfl⟩, rfl⟩)
    go_ret
    exact ⟨(by (try unfold Ov); repeat (first | with_reducible exact ex_over | with_reducible exact over_self _ | with_reducible refine ex_into ?_ _ | with_reducible refine ex_alloc ?_ _ | with_reducible refine ex_drew ?_ | ((with_reducible refine ex_setCell ?_ ?_ _); rotate_left; (first | omega | (simp; done) | (simp; omega))) | ((with_reducible refine ex_chg ?_ _ ?_); rotate_left; (first | assumption | (exact Hid.out (by assumption)))) | exact ex_over)), rfl⟩

namespace winOrder
open Go.ChangeShapes Go.WideShapes Go.ChangeAt
set_option maxRecDepth 100000 in
theorem lifted (os : Os) (started : os.Started) (H : Type) (enc : TypeId × Value → H) :
    ReturnsInHanded {} Try.checked os 4 .any (Rows.winOrderSpec.pre6 enc Try.prog Try.f4 Rows.winOrderRow.domain false) (Rows.winOrderSpec.post enc Try.prog Try.f4 false true false false) := by
  refine returnsInHanded_of_change (C := Try.checked) ownKnob0 started (by kernel_rfl) Try.func4
    (ChangeSpec.witness6 (enc := enc) (C := Try.checked) false ⟨#[], #[.slice none 0 0], []⟩ 8 (by kernel_rfl) (by kernel_rfl) (by kernel_rfl) (by kernel_rfl)) ?_
  intro W base args ds gs before hval0 hW hcnd _
  have hval : ∀ (j : Nat) t v, Try.f4.params[j]? = some t → args[j]? = some v → Value.okWide Try.prog W .any base t v := hval0
  have hW' := hW
  obtain ⟨p, q, hA0, hV, rfl, hfz, hnd⟩ := hW
  have hA : DataW.TrodAll enc Try.prog W 0 (fun _ => true) true Try.f4.params.toList args.toList ds p := hA0
  rw [Try.params4] at hA hval
  obtain ⟨v0, vs0, d0, ds0, p0, q0, hargs, rfl, rfl, h0, r0⟩ := trodAll_cons hA
  obtain ⟨rfl, rfl, rfl⟩ := trodAll_nil r0
  obtain rfl : args = #[v0] := by cases args; simp_all
  obtain ⟨rfl, rfl⟩ := trodVars_none hV
  have lt0 : ∀ x ∈ p0, x.block < W.heap.size := by obtain ⟨m, hm⟩ := h0; exact DataW.trod_lt m _ _ _ hm
  have k0 := h0
  obtain ⟨a0, n0, c0, rfl⟩ := okWide_slice Try.underlying27 (hval 0 27 v0 rfl rfl)
  obtain ⟨x0, rfl, s0, w0⟩ := open_wops h0
  clear hA0 hval0
  refine (winOrder_any x0 w0 a0 c0 W s0).mono fun e W' ⟨bel, he⟩ => ?_
  have bel := below_of_over bel
  subst he
  exact ⟨_, rfl, _, _, _, [], _, [], hW', trodAll_mk1 (shut_bool Try.underlying4 _), (trodAll_cons_mk (Below.trod laidOut0 (by kernel_rfl) (of_decide_eq_true (by kernel_rfl)) k0 bel lt0) trodAll_mk0), rfl, bel.frame _, fun h => by cases h⟩

theorem over : Rows.winOrderRow.holds Try.pinned (OpenSpec.ofChange Rows.winOrderSpec) :=
  OpenClaim.holds_of_wide 4 Try.f4 rfl rfl rfl rfl rfl rfl rfl ⟨rfl, rfl, rfl, rfl, rfl⟩ rfl rfl rfl rfl rfl (by kernel_rfl) Try.func4 (by kernel_rfl)
    (of_decide_eq_true (by kernel_rfl)) (by unfold Func.isWrapper; first | (rw [if_pos (by decide +kernel)]; kernel_rfl) | (rw [if_neg (by decide +kernel)]; exact ⟨rfl, rfl⟩))
    (fun os started H enc _ => lifted os started H enc)

theorem proved : Rows.WinOrderSaid := over
end winOrder
end Go.Proofs.Ytbkekpfancbemaa
