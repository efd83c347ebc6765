/- The law WinBounds holds: for every number of bits and every list of calls the call returns true, and the arguments read as they did. -/
import Derived.Test.YtbkekpfancbemaaWinO
namespace Go.Proofs.Ytbkekpfancbemaa
set_option linter.unusedVariables false
set_option linter.unusedSimpArgs false
open Go.RowKit

theorem out_less {q : Pc → Bool} {l : List Pc} (h : okPs l) : sumN (outW q l) + ((l.length : Int) - (outW q l).length) ≤ sumN l := by
  induction l with
  | nil => simp [outW, sumN]
  | cons x l ih =>
    have h1 := h x (by simp)
    have h2 := ih (fun p hp => h p (by simp [hp]))
    unfold outW at *
    rw [List.filter_cons]
    split
    · simp only [sumN, List.length_cons]; push_cast; omega
    · simp only [sumN, List.length_cons]; push_cast; omega
theorem out_same {q : Pc → Bool} {l : List Pc} (h : (outW q l).length = l.length) : outW q l = l := by
  unfold outW at *
  exact List.filter_eq_self.2 (List.length_filter_eq_length_iff.1 h)

set_option maxRecDepth 100000 in
set_option maxHeartbeats 8000000 in
theorem winBounds_any (n : Int) (hn : (Lit.int .u16 n).wf = true) (os : List Wo) (hwf : ∀ o ∈ os, o.wf) (a : Option Addr) (cap : Nat) (w : World) (hs : SlW w a cap os) :
    Calls Try.prog 6 #[.int .u16 n, .slice a os.length cap] w (Ret w (.bool true)) := by
  have hn0 : 0 ≤ n := by simp [Lit.wf, IntKind.min, IntKind.max, IntKind.signed, IntKind.bits] at hn; omega
  have hn1 : n ≤ 65535 := by simp [Lit.wf, IntKind.min, IntKind.max, IntKind.signed, IntKind.bits] at hn; omega
  clear hn
  have hmax := len_max hs
  have HK := hid known13_any
  cases hl : decide (100 < os.length)
  · have hle : os.length ≤ 100 := by have := of_decide_eq_false hl; omega
    clear hl
    have HN := hid (fun W => winNew_yes (1 + n) (by omega) (by omega) w.heap.size W)
    have hok : Hid (winOk (1 + n) []) := hid ⟨by simp [okPs], by simp [sumN]; omega, by omega⟩
    go_enter Try.func6, Try.ntmps6
    go_wp2_with (first
      | (go_at_call 16; (with_reducible refine (HK.out _).mono ?_); rintro _ _ ⟨⟨e1, rfl⟩, rfl⟩)
      | (go_at_call 18; (with_reducible refine (HN.out _ (by simp)).mono ?_); rintro _ _ ⟨rfl, rfl⟩))
    have HW1 := hid (show WinAt w.heap.size ((over w e1).alloc (.cells #[.int .i64 (1 + n), .int .i64 0, .slice none 0 0] 78)) (over w e1).heap.size (1 + n) [] [(over w e1).heap.size] from WinAt.new (by simp))
    simp only [size_over] at HW1
    have hov : Ov w ((over w e1).alloc (.cells #[.int .i64 (1 + n), .int .i64 0, .slice none 0 0] 78)) := (by (try unfold Ov); repeat (first | with_reducible exact ex_over | with_reducible exact over_self _ | with_reducible refine ex_into ?_ _ | with_reducible refine ex_alloc ?_ _ | with_reducible refine ex_drew ?_ | ((with_reducible refine ex_setCell ?_ ?_ _); rotate_left; (first | omega | (simp; done) | (simp; omega))) | ((with_reducible refine ex_chg ?_ _ ?_); rotate_left; (first | assumption | (exact Hid.out (by assumption)))) | exact ex_over))
    generalize ((over w e1).alloc (.cells #[.int .i64 (1 + n), .int .i64 0, .slice none 0 0] 78)) = W1 at *
    generalize w.heap.size + e1.heap.size = p at *
    clear HN HK
    go_loopw [6, 7] (fun mv i wr => ∃ (k : Nat) (M : Int) (xs : List Pc) (F : List Nat), k ≤ os.length ∧ i = .int .i64 k ∧ mv = .int .i64 M ∧ 0 ≤ M ∧ M ≤ 65536 ∧ Ov w wr ∧ Hid (WinAt w.heap.size wr p (1 + n) xs F) ∧ Hid (winOk (1 + n) xs) ∧ Hid (sumN xs ≤ n + M)) (fun _ i _ => os.length - (intOf i).toNat)
    case atStart => exact ⟨0, 0, [], _, Nat.zero_le _, rfl, rfl, by omega, by omega, hov, HW1, hok, hid (by simp [sumN]; omega)⟩
    case round =>
      clear HW1 hok hov W1
      obtain ⟨k, M, xs, F, hk, rfl, rfl, hM0, hM1, ⟨e, rfl⟩, HW, Hok, HSu⟩ := hrel
      have HG := hid HW.out.ge
      by_cases hlt : k < os.length
      · obtain ⟨b, off, rfl, hb, d0, d1, d2, d3, d4, d5, d6, d7, d8⟩ := SlW.at_ hs hlt
        have hko := (hwf _ (List.getElem_mem hlt)).1
        have hk0 := hko.1
        have hk1 := hko.2
        have nbF : b ∉ F := fun hm => by have := HG.out _ hm; omega
        have hxl := winOk_len Hok.out
        have HI := hid (fun W (hW : Ov (over w e) W) => winIn_any (HW.out.chg (G := []) (Chg.of_ov hW []) (by simp)))
        have HP := hid (fun W (hW : Ov (over w e) W) => winPieces_any (HW.out.chg (G := []) (Chg.of_ov hW []) (by simp)) (by omega))
        have hsx := HSu.out
        have hsx0 := (sumN_nonneg Hok.out.1).1
        clear hko
        by_cases g1 : os[k].k % 6 = 3 ∨ os[k].k % 6 = 4
        · have g5 : (os[k].k % 6 == 5) = false := by simp; omega
          have g : (os[k].k % 6 == 3) = true ∨ ((os[k].k % 6 == 3) = false ∧ (os[k].k % 6 == 4) = true) := by
            rcases g1 with g | g
            · left; simp [g]
            · right; simp [g]
          clear g1
          have HA := hid (fun W (hW : Ov (over w e) W) => winAck_any (HW.out.chg (G := []) (Chg.of_ov hW []) (by simp)) Hok.out os[k].p.s os[k].p.t)
          unfold Pl.v at HA
          rcases g with g2 | ⟨g2, g3⟩
          all_goals
            have hyl := outW_len (ackQ os[k].p.s os[k].p.t) xs
            have hls := out_less (q := ackQ os[k].p.s os[k].p.t) Hok.out.1
            have hsm := out_same (q := ackQ os[k].p.s os[k].p.t) (l := xs)
            have HO := hid (winOk_out Hok.out (ackQ os[k].p.s os[k].p.t))
            have hs0 := (sumN_nonneg HO.out.1).1
            obtain ⟨ys, hys⟩ : ∃ ys, ys = outW (ackQ os[k].p.s os[k].p.t) xs := ⟨_, rfl⟩
            rw [← hys] at hyl hls hsm HO HA hs0
            clear hys
            obtain ⟨K, hK⟩ : ∃ K : Nat, (xs.length : Int) - ys.length = K := ⟨xs.length - ys.length, by omega⟩
            rw [hK] at HA hls
            have t1 : ((ys.length : Int) != (xs.length : Int) - (K : Int)) = false := by simp; omega
            have t2 : decide (sumN xs < sumN ys) = false := by simp; omega
            have t3 : ((K : Int) == 0) = (sumN ys == sumN xs) := by
              by_cases hk0 : K = 0
              · have : ys = xs := hsm (by omega)
                subst this; subst hk0; simp
              · have e1 : ((K : Int) == 0) = false := by simp; omega
                have e2 : (sumN ys == sumN xs) = false := by simp; omega
                rw [e1, e2]
            have t4 : decide (n + M < sumN ys) = false := by simp; omega
            have hyb : sumN ys ≤ n + M := by omega
            have hyk : K ≤ xs.length := by omega
            clear hsm hls hK
            obtain ⟨S', hS'⟩ : ∃ S', S' = sumN ys := ⟨_, rfl⟩
            rw [← hS'] at t2 t3 t4 hyb hs0
            have HS' := hid hS'
            clear hS'
            cases g9 : ((K : Int) == 0)
            all_goals
              rw [g9] at t3
              have t5 := t3.symm
              clear t3
              obtain ⟨S, hS⟩ : ∃ S, S = sumN xs := ⟨_, rfl⟩
              rw [← hS] at t2 t5 HI hsx hsx0
              clear hS
              go_wp2_with (first
                | (go_at_call 25; (with_reducible refine (HI.out _ (by (try unfold Ov); repeat (first | with_reducible exact ex_over | with_reducible exact over_self _ | with_reducible refine ex_into ?_ _ | with_reducible refine ex_alloc ?_ _ | with_reducible refine ex_drew ?_ | ((with_reducible refine ex_setCell ?_ ?_ _); rotate_left; (first | omega | (simp; done) | (simp; omega))) | ((with_reducible refine ex_chg ?_ _ ?_); rotate_left; (first | assumption | (exact Hid.out (by assumption)))) | exact ex_over))).mono ?_); rintro _ _ ⟨⟨e2, rfl⟩, rfl⟩)
                | (go_at_call 22; (with_reducible refine (HP.out _ (by (try unfold Ov); repeat (first | with_reducible exact ex_over | with_reducible exact over_self _ | with_reducible refine ex_into ?_ _ | with_reducible refine ex_alloc ?_ _ | with_reducible refine ex_drew ?_ | ((with_reducible refine ex_setCell ?_ ?_ _); rotate_left; (first | omega | (simp; done) | (simp; omega))) | ((with_reducible refine ex_chg ?_ _ ?_); rotate_left; (first | assumption | (exact Hid.out (by assumption)))) | exact ex_over))).mono ?_); rintro _ _ ⟨⟨e3, rfl⟩, v3, rfl, o3⟩; obtain ⟨a3, c3, rfl, s3⟩ := Own.slice Pc.cs_len o3; clear o3))
              refine M2.wp_region_mix [13] 13 (by kernel_rfl) (by kernel_rfl) (by decide) ?_
              simp only [List.take_succ_cons, List.take_zero, List.drop_succ_cons, List.drop_zero]
              refine M2.mixL_quiet 13 (by kernel_rfl) ?_
              simp only [List.take_succ_cons, List.take_zero, List.drop_succ_cons, List.drop_zero]
              repeat (go_big_quiet_step (fail))
              refine wpQuiet_nil ?_
              refine M2.mixL_nil ?_
              refine M2.mixL_eff rfl ?_
              go_wp2_with ((go_at_call 19; (with_reducible refine (HA.out _ (by (try unfold Ov); repeat (first | with_reducible exact ex_over | with_reducible exact over_self _ | with_reducible refine ex_into ?_ _ | with_reducible refine ex_alloc ?_ _ | with_reducible refine ex_drew ?_ | ((with_reducible refine ex_setCell ?_ ?_ _); rotate_left; (first | omega | (simp; done) | (simp; omega))) | ((with_reducible refine ex_chg ?_ _ ?_); rotate_left; (first | assumption | (exact Hid.out (by assumption)))) | exact ex_over))).mono ?_); rintro _ _ ⟨rfl, m, F', rfl, hw, hf⟩; clear hf; have HW' := hid hw; clear hw))
              refine M2.MixQ.mk trivial ?_
              refine M2.mixL_quiet 1 (by kernel_rfl) ?_
              simp only [List.take_succ_cons, List.take_zero, List.drop_succ_cons, List.drop_zero]
              repeat (go_big_quiet_step (fail))
              refine wpQuiet_nil ?_
              refine M2.mixL_nil ?_
              have hov : Ov w (chg F ((over (over (over w e) e2) e3).drew) m) := (by (try unfold Ov); repeat (first | with_reducible exact ex_over | with_reducible exact over_self _ | with_reducible refine ex_into ?_ _ | with_reducible refine ex_alloc ?_ _ | with_reducible refine ex_drew ?_ | ((with_reducible refine ex_setCell ?_ ?_ _); rotate_left; (first | omega | (simp; done) | (simp; omega))) | ((with_reducible refine ex_chg ?_ _ ?_); rotate_left; (first | assumption | (exact Hid.out (by assumption)))) | exact ex_over))
              generalize chg F ((over (over (over w e) e2) e3).drew) m = Wd at *
              have HI2 := hid (fun W (hW : Ov Wd W) => winIn_any (HW'.out.chg (G := []) (Chg.of_ov hW []) (by simp)))
              have HP2 := hid (fun W (hW : Ov Wd W) => winPieces_any (HW'.out.chg (G := []) (Chg.of_ov hW []) (by simp)) (by omega))
              rw [← HS'.out] at HI2
              clear HI HP HA HW HG s3
              go_wp2_with (first
                | (go_at_call 22; (with_reducible refine (HP2.out _ (by (try unfold Ov); repeat (first | with_reducible exact ex_over | with_reducible exact over_self _ | with_reducible refine ex_into ?_ _ | with_reducible refine ex_alloc ?_ _ | with_reducible refine ex_drew ?_ | ((with_reducible refine ex_setCell ?_ ?_ _); rotate_left; (first | omega | (simp; done) | (simp; omega))) | ((with_reducible refine ex_chg ?_ _ ?_); rotate_left; (first | assumption | (exact Hid.out (by assumption)))) | exact ex_over))).mono ?_); rintro _ _ ⟨⟨e4, rfl⟩, v4, rfl, o4⟩; obtain ⟨a4, c4, rfl, s4⟩ := Own.slice Pc.cs_len o4; clear o4)
                | (go_at_call 25; (with_reducible refine (HI2.out _ (by (try unfold Ov); repeat (first | with_reducible exact ex_over | with_reducible exact over_self _ | with_reducible refine ex_into ?_ _ | with_reducible refine ex_alloc ?_ _ | with_reducible refine ex_drew ?_ | ((with_reducible refine ex_setCell ?_ ?_ _); rotate_left; (first | omega | (simp; done) | (simp; omega))) | ((with_reducible refine ex_chg ?_ _ ?_); rotate_left; (first | assumption | (exact Hid.out (by assumption)))) | exact ex_over))).mono ?_); rintro _ _ ⟨⟨e5, rfl⟩, rfl⟩))
              go_roundw
              case rel => exact ⟨k + 1, M, _, F', by omega, by go_num, rfl, hM0, hM1, over_trans hov (by (try unfold Ov); repeat (first | with_reducible exact ex_over | with_reducible exact over_self _ | with_reducible refine ex_into ?_ _ | with_reducible refine ex_alloc ?_ _ | with_reducible refine ex_drew ?_ | ((with_reducible refine ex_setCell ?_ ?_ _); rotate_left; (first | omega | (simp; done) | (simp; omega))) | ((with_reducible refine ex_chg ?_ _ ?_); rotate_left; (first | assumption | (exact Hid.out (by assumption)))) | exact ex_over)), hid (HW'.out.chg (G := []) (Chg.of_ov (by (try unfold Ov); repeat (first | with_reducible exact ex_over | with_reducible exact over_self _ | with_reducible refine ex_into ?_ _ | with_reducible refine ex_alloc ?_ _ | with_reducible refine ex_drew ?_ | ((with_reducible refine ex_setCell ?_ ?_ _); rotate_left; (first | omega | (simp; done) | (simp; omega))) | ((with_reducible refine ex_chg ?_ _ ?_); rotate_left; (first | assumption | (exact Hid.out (by assumption)))) | exact ex_over)) []) (by simp)), HO, hid (by rw [← HS'.out]; exact hyb)⟩
              case measure => simp [intOf]; omega
        · have g2 : (os[k].k % 6 == 3) = false := by simp; exact fun h => g1 (.inl h)
          have g3 : (os[k].k % 6 == 4) = false := by simp; exact fun h => g1 (.inr h)
          clear g1
          cases g4 : (os[k].k % 6 == 5)
          · have HA := hid (fun W (hW : Ov (over w e) W) => winAdd_any (HW.out.chg (G := []) (Chg.of_ov hW []) (by simp)) Hok.out os[k].p (hwf _ (List.getElem_mem hlt)).2 (by obtain ⟨e', rfl⟩ := hW; simp; omega))
            have HO := hid (winOk_add Hok.out os[k].p)
            unfold Pc.v at HA
            cases hq : addOk (1 + n) xs os[k].p
            · rw [hq] at HA
              have hy : addW (1 + n) xs os[k].p = xs := by simp [addW, hq]
              rw [hy] at HA HO
              clear hq hy
              have t4 : decide (n + M < sumN xs) = false := by simp; omega
              obtain ⟨S, hS⟩ : ∃ S, S = sumN xs := ⟨_, rfl⟩
              rw [← hS] at HI hsx hsx0 t4
              have HS' := hid hS
              clear hS
              go_wp2_with (first
                | (go_at_call 25; (with_reducible refine (HI.out _ (by (try unfold Ov); repeat (first | with_reducible exact ex_over | with_reducible exact over_self _ | with_reducible refine ex_into ?_ _ | with_reducible refine ex_alloc ?_ _ | with_reducible refine ex_drew ?_ | ((with_reducible refine ex_setCell ?_ ?_ _); rotate_left; (first | omega | (simp; done) | (simp; omega))) | ((with_reducible refine ex_chg ?_ _ ?_); rotate_left; (first | assumption | (exact Hid.out (by assumption)))) | exact ex_over))).mono ?_); rintro _ _ ⟨⟨e2, rfl⟩, rfl⟩)
                | (go_at_call 22; (with_reducible refine (HP.out _ (by (try unfold Ov); repeat (first | with_reducible exact ex_over | with_reducible exact over_self _ | with_reducible refine ex_into ?_ _ | with_reducible refine ex_alloc ?_ _ | with_reducible refine ex_drew ?_ | ((with_reducible refine ex_setCell ?_ ?_ _); rotate_left; (first | omega | (simp; done) | (simp; omega))) | ((with_reducible refine ex_chg ?_ _ ?_); rotate_left; (first | assumption | (exact Hid.out (by assumption)))) | exact ex_over))).mono ?_); rintro _ _ ⟨⟨e3, rfl⟩, v3, rfl, o3⟩; obtain ⟨a3, c3, rfl, s3⟩ := Own.slice Pc.cs_len o3; clear o3))
              go_wp2_with (go_at_call 21; (with_reducible refine (HA.out _ (by (try unfold Ov); repeat (first | with_reducible exact ex_over | with_reducible exact over_self _ | with_reducible refine ex_into ?_ _ | with_reducible refine ex_alloc ?_ _ | with_reducible refine ex_drew ?_ | ((with_reducible refine ex_setCell ?_ ?_ _); rotate_left; (first | omega | (simp; done) | (simp; omega))) | ((with_reducible refine ex_chg ?_ _ ?_); rotate_left; (first | assumption | (exact Hid.out (by assumption)))) | exact ex_over))).mono ?_); rintro _ _ ⟨rfl, m, F', rfl, hw, hf⟩; clear hf; have HW' := hid hw; clear hw)
              have hov : Ov w (chg F (over (over (over w e) e2) e3) m) := (by (try unfold Ov); repeat (first | with_reducible exact ex_over | with_reducible exact over_self _ | with_reducible refine ex_into ?_ _ | with_reducible refine ex_alloc ?_ _ | with_reducible refine ex_drew ?_ | ((with_reducible refine ex_setCell ?_ ?_ _); rotate_left; (first | omega | (simp; done) | (simp; omega))) | ((with_reducible refine ex_chg ?_ _ ?_); rotate_left; (first | assumption | (exact Hid.out (by assumption)))) | exact ex_over))
              generalize chg F (over (over (over w e) e2) e3) m = Wd at *
              have HI2 := hid (fun W (hW : Ov Wd W) => winIn_any (HW'.out.chg (G := []) (Chg.of_ov hW []) (by simp)))
              rw [← HS'.out] at HI2
              clear HI HP HA HW HG s3
              go_wp2_with (go_at_call 25; (with_reducible refine (HI2.out _ (by (try unfold Ov); repeat (first | with_reducible exact ex_over | with_reducible exact over_self _ | with_reducible refine ex_into ?_ _ | with_reducible refine ex_alloc ?_ _ | with_reducible refine ex_drew ?_ | ((with_reducible refine ex_setCell ?_ ?_ _); rotate_left; (first | omega | (simp; done) | (simp; omega))) | ((with_reducible refine ex_chg ?_ _ ?_); rotate_left; (first | assumption | (exact Hid.out (by assumption)))) | exact ex_over))).mono ?_); rintro _ _ ⟨⟨e5, rfl⟩, rfl⟩)
              go_roundw
              case rel => exact ⟨k + 1, M, _, F', by omega, by go_num, rfl, hM0, hM1, over_trans hov (by (try unfold Ov); repeat (first | with_reducible exact ex_over | with_reducible exact over_self _ | with_reducible refine ex_into ?_ _ | with_reducible refine ex_alloc ?_ _ | with_reducible refine ex_drew ?_ | ((with_reducible refine ex_setCell ?_ ?_ _); rotate_left; (first | omega | (simp; done) | (simp; omega))) | ((with_reducible refine ex_chg ?_ _ ?_); rotate_left; (first | assumption | (exact Hid.out (by assumption)))) | exact ex_over)), hid (HW'.out.chg (G := []) (Chg.of_ov (by (try unfold Ov); repeat (first | with_reducible exact ex_over | with_reducible exact over_self _ | with_reducible refine ex_into ?_ _ | with_reducible refine ex_alloc ?_ _ | with_reducible refine ex_drew ?_ | ((with_reducible refine ex_setCell ?_ ?_ _); rotate_left; (first | omega | (simp; done) | (simp; omega))) | ((with_reducible refine ex_chg ?_ _ ?_); rotate_left; (first | assumption | (exact Hid.out (by assumption)))) | exact ex_over)) []) (by simp)), HO, HSu⟩
              case measure => simp [intOf]; omega
            · rw [hq] at HA
              have hy : addW (1 + n) xs os[k].p = xs ++ [os[k].p] := by simp [addW, hq]
              rw [hy] at HA HO
              simp only [addOk, Bool.and_eq_true, decide_eq_true_eq] at hq
              obtain ⟨⟨q1, q2⟩, q3⟩ := hq
              have hsn : sumN (xs ++ [os[k].p]) = sumN xs + os[k].p.n := by rw [sumN_append]; simp [sumN]
              have t4 : (sumN xs + os[k].p.n != sumN xs + os[k].p.n) = false := by simp
              obtain ⟨S, hS⟩ : ∃ S, S = sumN xs := ⟨_, rfl⟩
              rw [← hS] at HI hsx hsx0 t4 hsn q3
              have HS' := hid hsn
              clear hS hy hsn
              go_wp2_with (first
                | (go_at_call 25; (with_reducible refine (HI.out _ (by (try unfold Ov); repeat (first | with_reducible exact ex_over | with_reducible exact over_self _ | with_reducible refine ex_into ?_ _ | with_reducible refine ex_alloc ?_ _ | with_reducible refine ex_drew ?_ | ((with_reducible refine ex_setCell ?_ ?_ _); rotate_left; (first | omega | (simp; done) | (simp; omega))) | ((with_reducible refine ex_chg ?_ _ ?_); rotate_left; (first | assumption | (exact Hid.out (by assumption)))) | exact ex_over))).mono ?_); rintro _ _ ⟨⟨e2, rfl⟩, rfl⟩)
                | (go_at_call 22; (with_reducible refine (HP.out _ (by (try unfold Ov); repeat (first | with_reducible exact ex_over | with_reducible exact over_self _ | with_reducible refine ex_into ?_ _ | with_reducible refine ex_alloc ?_ _ | with_reducible refine ex_drew ?_ | ((with_reducible refine ex_setCell ?_ ?_ _); rotate_left; (first | omega | (simp; done) | (simp; omega))) | ((with_reducible refine ex_chg ?_ _ ?_); rotate_left; (first | assumption | (exact Hid.out (by assumption)))) | exact ex_over))).mono ?_); rintro _ _ ⟨⟨e3, rfl⟩, v3, rfl, o3⟩; obtain ⟨a3, c3, rfl, s3⟩ := Own.slice Pc.cs_len o3; clear o3))
              by_cases t6 : os[k].p.n ≤ M
              · have t7 : decide (n + M < S + os[k].p.n) = false := by simp; omega
                go_wp2_with (go_at_call 21; (with_reducible refine (HA.out _ (by (try unfold Ov); repeat (first | with_reducible exact ex_over | with_reducible exact over_self _ | with_reducible refine ex_into ?_ _ | with_reducible refine ex_alloc ?_ _ | with_reducible refine ex_drew ?_ | ((with_reducible refine ex_setCell ?_ ?_ _); rotate_left; (first | omega | (simp; done) | (simp; omega))) | ((with_reducible refine ex_chg ?_ _ ?_); rotate_left; (first | assumption | (exact Hid.out (by assumption)))) | exact ex_over))).mono ?_); rintro _ _ ⟨rfl, m, F', rfl, hw, hf⟩; clear hf; have HW' := hid hw; clear hw)
                have hov : Ov w (chg F (over (over (over w e) e2) e3) m) := (by (try unfold Ov); repeat (first | with_reducible exact ex_over | with_reducible exact over_self _ | with_reducible refine ex_into ?_ _ | with_reducible refine ex_alloc ?_ _ | with_reducible refine ex_drew ?_ | ((with_reducible refine ex_setCell ?_ ?_ _); rotate_left; (first | omega | (simp; done) | (simp; omega))) | ((with_reducible refine ex_chg ?_ _ ?_); rotate_left; (first | assumption | (exact Hid.out (by assumption)))) | exact ex_over))
                have HI2 := hid (fun W (hW : Ov (chg F (over (over (over w e) e2) e3) m) W) => winIn_any (HW'.out.chg (G := []) (Chg.of_ov hW []) (by simp)))
                rw [HS'.out] at HI2
                clear HI HP HA HW s3
                refine M2.wp_region_mix [1] 11 (by kernel_rfl) (by kernel_rfl) (by decide) ?_
                simp only [List.take_succ_cons, List.take_zero, List.drop_succ_cons, List.drop_zero]
                refine M2.mixL_quiet 1 (by kernel_rfl) ?_
                simp only [List.take_succ_cons, List.take_zero, List.drop_succ_cons, List.drop_zero]
                repeat (go_big_quiet_step (fail))
                refine wpQuiet_nil ?_
                refine M2.mixL_eff rfl ?_
                go_wp2_with ((go_at_call 25; (with_reducible refine (HI2.out _ (by (try unfold Ov); repeat (first | with_reducible exact ex_over | with_reducible exact over_self _ | with_reducible refine ex_into ?_ _ | with_reducible refine ex_alloc ?_ _ | with_reducible refine ex_drew ?_ | ((with_reducible refine ex_setCell ?_ ?_ _); rotate_left; (first | omega | (simp; done) | (simp; omega))) | ((with_reducible refine ex_chg ?_ _ ?_); rotate_left; (first | assumption | (exact Hid.out (by assumption)))) | exact ex_over))).mono ?_); rintro _ _ ⟨⟨e5, rfl⟩, rfl⟩))
                refine M2.MixQ.mk (by (try unfold Ov); repeat (first | with_reducible exact ex_over | with_reducible exact over_self _ | with_reducible refine ex_into ?_ _ | with_reducible refine ex_alloc ?_ _ | with_reducible refine ex_drew ?_ | ((with_reducible refine ex_setCell ?_ ?_ _); rotate_left; (first | omega | (simp; done) | (simp; omega))) | ((with_reducible refine ex_chg ?_ _ ?_); rotate_left; (first | assumption | (exact Hid.out (by assumption)))) | exact ex_over)) ?_
                refine M2.mixL_quiet 9 (by kernel_rfl) ?_
                simp only [List.take_succ_cons, List.take_zero, List.drop_succ_cons, List.drop_zero]
                repeat (go_big_quiet_step (fail))
                refine wpQuiet_nil ?_
                refine M2.mixL_nil ?_
                refine M2.mixL_nil ?_
                go_wp2_with (go_at_call 25; (with_reducible refine (HI2.out _ (by (try unfold Ov); repeat (first | with_reducible exact ex_over | with_reducible exact over_self _ | with_reducible refine ex_into ?_ _ | with_reducible refine ex_alloc ?_ _ | with_reducible refine ex_drew ?_ | ((with_reducible refine ex_setCell ?_ ?_ _); rotate_left; (first | omega | (simp; done) | (simp; omega))) | ((with_reducible refine ex_chg ?_ _ ?_); rotate_left; (first | assumption | (exact Hid.out (by assumption)))) | exact ex_over))).mono ?_); rintro _ _ ⟨⟨e6, rfl⟩, rfl⟩)
                go_roundw
                case rel => exact ⟨k + 1, M, _, F', by omega, by go_num, rfl, by omega, by omega, over_trans hov (by (try unfold Ov); repeat (first | with_reducible exact ex_over | with_reducible exact over_self _ | with_reducible refine ex_into ?_ _ | with_reducible refine ex_alloc ?_ _ | with_reducible refine ex_drew ?_ | ((with_reducible refine ex_setCell ?_ ?_ _); rotate_left; (first | omega | (simp; done) | (simp; omega))) | ((with_reducible refine ex_chg ?_ _ ?_); rotate_left; (first | assumption | (exact Hid.out (by assumption)))) | exact ex_over)), hid (HW'.out.chg (G := []) (Chg.of_ov (by (try unfold Ov); repeat (first | with_reducible exact ex_over | with_reducible exact over_self _ | with_reducible refine ex_into ?_ _ | with_reducible refine ex_alloc ?_ _ | with_reducible refine ex_drew ?_ | ((with_reducible refine ex_setCell ?_ ?_ _); rotate_left; (first | omega | (simp; done) | (simp; omega))) | ((with_reducible refine ex_chg ?_ _ ?_); rotate_left; (first | assumption | (exact Hid.out (by assumption)))) | exact ex_over)) []) (by simp)), HO, hid (by rw [HS'.out]; omega)⟩
                case measure => simp [intOf]; omega
              · have t7 : decide (n + os[k].p.n < S + os[k].p.n) = false := by simp; omega
                go_wp2_with (go_at_call 21; (with_reducible refine (HA.out _ (by (try unfold Ov); repeat (first | with_reducible exact ex_over | with_reducible exact over_self _ | with_reducible refine ex_into ?_ _ | with_reducible refine ex_alloc ?_ _ | with_reducible refine ex_drew ?_ | ((with_reducible refine ex_setCell ?_ ?_ _); rotate_left; (first | omega | (simp; done) | (simp; omega))) | ((with_reducible refine ex_chg ?_ _ ?_); rotate_left; (first | assumption | (exact Hid.out (by assumption)))) | exact ex_over))).mono ?_); rintro _ _ ⟨rfl, m, F', rfl, hw, hf⟩; clear hf; have HW' := hid hw; clear hw)
                have hov : Ov w (chg F (over (over (over w e) e2) e3) m) := (by (try unfold Ov); repeat (first | with_reducible exact ex_over | with_reducible exact over_self _ | with_reducible refine ex_into ?_ _ | with_reducible refine ex_alloc ?_ _ | with_reducible refine ex_drew ?_ | ((with_reducible refine ex_setCell ?_ ?_ _); rotate_left; (first | omega | (simp; done) | (simp; omega))) | ((with_reducible refine ex_chg ?_ _ ?_); rotate_left; (first | assumption | (exact Hid.out (by assumption)))) | exact ex_over))
                have HI2 := hid (fun W (hW : Ov (chg F (over (over (over w e) e2) e3) m) W) => winIn_any (HW'.out.chg (G := []) (Chg.of_ov hW []) (by simp)))
                rw [HS'.out] at HI2
                clear HI HP HA HW s3
                refine M2.wp_region_mix [1] 11 (by kernel_rfl) (by kernel_rfl) (by decide) ?_
                simp only [List.take_succ_cons, List.take_zero, List.drop_succ_cons, List.drop_zero]
                refine M2.mixL_quiet 1 (by kernel_rfl) ?_
                simp only [List.take_succ_cons, List.take_zero, List.drop_succ_cons, List.drop_zero]
                repeat (go_big_quiet_step (fail))
                refine wpQuiet_nil ?_
                refine M2.mixL_eff rfl ?_
                go_wp2_with ((go_at_call 25; (with_reducible refine (HI2.out _ (by (try unfold Ov); repeat (first | with_reducible exact ex_over | with_reducible exact over_self _ | with_reducible refine ex_into ?_ _ | with_reducible refine ex_alloc ?_ _ | with_reducible refine ex_drew ?_ | ((with_reducible refine ex_setCell ?_ ?_ _); rotate_left; (first | omega | (simp; done) | (simp; omega))) | ((with_reducible refine ex_chg ?_ _ ?_); rotate_left; (first | assumption | (exact Hid.out (by assumption)))) | exact ex_over))).mono ?_); rintro _ _ ⟨⟨e5, rfl⟩, rfl⟩))
                refine M2.MixQ.mk (by (try unfold Ov); repeat (first | with_reducible exact ex_over | with_reducible exact over_self _ | with_reducible refine ex_into ?_ _ | with_reducible refine ex_alloc ?_ _ | with_reducible refine ex_drew ?_ | ((with_reducible refine ex_setCell ?_ ?_ _); rotate_left; (first | omega | (simp; done) | (simp; omega))) | ((with_reducible refine ex_chg ?_ _ ?_); rotate_left; (first | assumption | (exact Hid.out (by assumption)))) | exact ex_over)) ?_
                refine M2.mixL_quiet 9 (by kernel_rfl) ?_
                simp only [List.take_succ_cons, List.take_zero, List.drop_succ_cons, List.drop_zero]
                repeat (go_big_quiet_step (fail))
                refine wpQuiet_nil ?_
                refine M2.mixL_nil ?_
                refine M2.mixL_nil ?_
                go_wp2_with (go_at_call 25; (with_reducible refine (HI2.out _ (by (try unfold Ov); repeat (first | with_reducible exact ex_over | with_reducible exact over_self _ | with_reducible refine ex_into ?_ _ | with_reducible refine ex_alloc ?_ _ | with_reducible refine ex_drew ?_ | ((with_reducible refine ex_setCell ?_ ?_ _); rotate_left; (first | omega | (simp; done) | (simp; omega))) | ((with_reducible refine ex_chg ?_ _ ?_); rotate_left; (first | assumption | (exact Hid.out (by assumption)))) | exact ex_over))).mono ?_); rintro _ _ ⟨⟨e6, rfl⟩, rfl⟩)
                go_roundw
                case rel => exact ⟨k + 1, os[k].p.n, _, F', by omega, by go_num, rfl, by omega, by omega, over_trans hov (by (try unfold Ov); repeat (first | with_reducible exact ex_over | with_reducible exact over_self _ | with_reducible refine ex_into ?_ _ | with_reducible refine ex_alloc ?_ _ | with_reducible refine ex_drew ?_ | ((with_reducible refine ex_setCell ?_ ?_ _); rotate_left; (first | omega | (simp; done) | (simp; omega))) | ((with_reducible refine ex_chg ?_ _ ?_); rotate_left; (first | assumption | (exact Hid.out (by assumption)))) | exact ex_over)), hid (HW'.out.chg (G := []) (Chg.of_ov (by (try unfold Ov); repeat (first | with_reducible exact ex_over | with_reducible exact over_self _ | with_reducible refine ex_into ?_ _ | with_reducible refine ex_alloc ?_ _ | with_reducible refine ex_drew ?_ | ((with_reducible refine ex_setCell ?_ ?_ _); rotate_left; (first | omega | (simp; done) | (simp; omega))) | ((with_reducible refine ex_chg ?_ _ ?_); rotate_left; (first | assumption | (exact Hid.out (by assumption)))) | exact ex_over)) []) (by simp)), HO, hid (by rw [HS'.out]; omega)⟩
                case measure => simp [intOf]; omega
          · have HA := hid (fun W (hW : Ov (over w e) W) => winDrop_any (HW.out.chg (G := []) (Chg.of_ov hW []) (by simp)) Hok.out os[k].p.s)
            have hyl := outW_len (dropQ os[k].p.s) xs
            have hls := out_less (q := dropQ os[k].p.s) Hok.out.1
            have hsm := out_same (q := dropQ os[k].p.s) (l := xs)
            have HO := hid (winOk_out Hok.out (dropQ os[k].p.s))
            have hs0 := (sumN_nonneg HO.out.1).1
            obtain ⟨ys, hys⟩ : ∃ ys, ys = outW (dropQ os[k].p.s) xs := ⟨_, rfl⟩
            rw [← hys] at hyl hls hsm HO HA hs0
            clear hys
            obtain ⟨K, hK⟩ : ∃ K : Nat, (xs.length : Int) - ys.length = K := ⟨xs.length - ys.length, by omega⟩
            rw [hK] at HA hls
            have t1 : ((ys.length : Int) != (xs.length : Int) - (K : Int)) = false := by simp; omega
            have t2 : decide (sumN xs < sumN ys) = false := by simp; omega
            have t3 : ((K : Int) == 0) = (sumN ys == sumN xs) := by
              by_cases hk0 : K = 0
              · have : ys = xs := hsm (by omega)
                subst this; subst hk0; simp
              · have e1 : ((K : Int) == 0) = false := by simp; omega
                have e2 : (sumN ys == sumN xs) = false := by simp; omega
                rw [e1, e2]
            have t4 : decide (n + M < sumN ys) = false := by simp; omega
            have hyb : sumN ys ≤ n + M := by omega
            have hyk : K ≤ xs.length := by omega
            clear hsm hls hK
            obtain ⟨S', hS'⟩ : ∃ S', S' = sumN ys := ⟨_, rfl⟩
            rw [← hS'] at t2 t3 t4 hyb hs0
            have HS' := hid hS'
            clear hS'
            cases g9 : ((K : Int) == 0)
            all_goals
              rw [g9] at t3
              have t5 := t3.symm
              clear t3
              obtain ⟨S, hS⟩ : ∃ S, S = sumN xs := ⟨_, rfl⟩
              rw [← hS] at t2 t5 HI hsx hsx0
              clear hS
              go_wp2_with (first
                | (go_at_call 25; (with_reducible refine (HI.out _ (by (try unfold Ov); repeat (first | with_reducible exact ex_over | with_reducible exact over_self _ | with_reducible refine ex_into ?_ _ | with_reducible refine ex_alloc ?_ _ | with_reducible refine ex_drew ?_ | ((with_reducible refine ex_setCell ?_ ?_ _); rotate_left; (first | omega | (simp; done) | (simp; omega))) | ((with_reducible refine ex_chg ?_ _ ?_); rotate_left; (first | assumption | (exact Hid.out (by assumption)))) | exact ex_over))).mono ?_); rintro _ _ ⟨⟨e2, rfl⟩, rfl⟩)
                | (go_at_call 22; (with_reducible refine (HP.out _ (by (try unfold Ov); repeat (first | with_reducible exact ex_over | with_reducible exact over_self _ | with_reducible refine ex_into ?_ _ | with_reducible refine ex_alloc ?_ _ | with_reducible refine ex_drew ?_ | ((with_reducible refine ex_setCell ?_ ?_ _); rotate_left; (first | omega | (simp; done) | (simp; omega))) | ((with_reducible refine ex_chg ?_ _ ?_); rotate_left; (first | assumption | (exact Hid.out (by assumption)))) | exact ex_over))).mono ?_); rintro _ _ ⟨⟨e3, rfl⟩, v3, rfl, o3⟩; obtain ⟨a3, c3, rfl, s3⟩ := Own.slice Pc.cs_len o3; clear o3))
              go_wp2_with (go_at_call 20; (with_reducible refine (HA.out _ (by (try unfold Ov); repeat (first | with_reducible exact ex_over | with_reducible exact over_self _ | with_reducible refine ex_into ?_ _ | with_reducible refine ex_alloc ?_ _ | with_reducible refine ex_drew ?_ | ((with_reducible refine ex_setCell ?_ ?_ _); rotate_left; (first | omega | (simp; done) | (simp; omega))) | ((with_reducible refine ex_chg ?_ _ ?_); rotate_left; (first | assumption | (exact Hid.out (by assumption)))) | exact ex_over))).mono ?_); rintro _ _ ⟨rfl, m, F', rfl, hw, hf⟩; clear hf; have HW' := hid hw; clear hw)
              have hov : Ov w (chg F (over (over (over w e) e2) e3) m) := (by (try unfold Ov); repeat (first | with_reducible exact ex_over | with_reducible exact over_self _ | with_reducible refine ex_into ?_ _ | with_reducible refine ex_alloc ?_ _ | with_reducible refine ex_drew ?_ | ((with_reducible refine ex_setCell ?_ ?_ _); rotate_left; (first | omega | (simp; done) | (simp; omega))) | ((with_reducible refine ex_chg ?_ _ ?_); rotate_left; (first | assumption | (exact Hid.out (by assumption)))) | exact ex_over))
              generalize chg F (over (over (over w e) e2) e3) m = Wd at *
              have HI2 := hid (fun W (hW : Ov Wd W) => winIn_any (HW'.out.chg (G := []) (Chg.of_ov hW []) (by simp)))
              have HP2 := hid (fun W (hW : Ov Wd W) => winPieces_any (HW'.out.chg (G := []) (Chg.of_ov hW []) (by simp)) (by omega))
              rw [← HS'.out] at HI2
              clear HI HP HA HW HG s3
              go_wp2_with (first
                | (go_at_call 22; (with_reducible refine (HP2.out _ (by (try unfold Ov); repeat (first | with_reducible exact ex_over | with_reducible exact over_self _ | with_reducible refine ex_into ?_ _ | with_reducible refine ex_alloc ?_ _ | with_reducible refine ex_drew ?_ | ((with_reducible refine ex_setCell ?_ ?_ _); rotate_left; (first | omega | (simp; done) | (simp; omega))) | ((with_reducible refine ex_chg ?_ _ ?_); rotate_left; (first | assumption | (exact Hid.out (by assumption)))) | exact ex_over))).mono ?_); rintro _ _ ⟨⟨e4, rfl⟩, v4, rfl, o4⟩; obtain ⟨a4, c4, rfl, s4⟩ := Own.slice Pc.cs_len o4; clear o4)
                | (go_at_call 25; (with_reducible refine (HI2.out _ (by (try unfold Ov); repeat (first | with_reducible exact ex_over | with_reducible exact over_self _ | with_reducible refine ex_into ?_ _ | with_reducible refine ex_alloc ?_ _ | with_reducible refine ex_drew ?_ | ((with_reducible refine ex_setCell ?_ ?_ _); rotate_left; (first | omega | (simp; done) | (simp; omega))) | ((with_reducible refine ex_chg ?_ _ ?_); rotate_left; (first | assumption | (exact Hid.out (by assumption)))) | exact ex_over))).mono ?_); rintro _ _ ⟨⟨e5, rfl⟩, rfl⟩))
              go_roundw
              case rel => exact ⟨k + 1, M, _, F', by omega, by go_num, rfl, hM0, hM1, over_trans hov (by (try unfold Ov); repeat (first | with_reducible exact ex_over | with_reducible exact over_self _ | with_reducible refine ex_into ?_ _ | with_reducible refine ex_alloc ?_ _ | with_reducible refine ex_drew ?_ | ((with_reducible refine ex_setCell ?_ ?_ _); rotate_left; (first | omega | (simp; done) | (simp; omega))) | ((with_reducible refine ex_chg ?_ _ ?_); rotate_left; (first | assumption | (exact Hid.out (by assumption)))) | exact ex_over)), hid (HW'.out.chg (G := []) (Chg.of_ov (by (try unfold Ov); repeat (first | with_reducible exact ex_over | with_reducible exact over_self _ | with_reducible refine ex_into ?_ _ | with_reducible refine ex_alloc ?_ _ | with_reducible refine ex_drew ?_ | ((with_reducible refine ex_setCell ?_ ?_ _); rotate_left; (first | omega | (simp; done) | (simp; omega))) | ((with_reducible refine ex_chg ?_ _ ?_); rotate_left; (first | assumption | (exact Hid.out (by assumption)))) | exact ex_over)) []) (by simp)), HO, hid (by rw [← HS'.out]; exact hyb)⟩
              case measure => simp [intOf]; omega
      · go_wp2_with fail
        go_ret
        exact ⟨(by (try unfold Ov); repeat (first | with_reducible exact ex_over | with_reducible exact over_self _ | with_reducible refine ex_into ?_ _ | with_reducible refine ex_alloc ?_ _ | with_reducible refine ex_drew ?_ | ((with_reducible refine ex_setCell ?_ ?_ _); rotate_left; (first | omega | (simp; done) | (simp; omega))) | ((with_reducible refine ex_chg ?_ _ ?_); rotate_left; (first | assumption | (exact Hid.out (by assumption)))) | exact ex_over)), rfl⟩
  · have hlt : 100 < os.length := of_decide_eq_true hl
    go_enter Try.func6, Try.ntmps6
    go_wp2_with (go_at_call 16; (with_reducible refine (HK.out _).mono ?_); rintro _ _ ⟨⟨e1, rfl⟩, rfl⟩)
    go_ret
    exact ⟨(by (try unfold Ov); repeat (first | with_reducible exact ex_over | with_reducible exact over_self _ | with_reducible refine ex_into ?_ _ | with_reducible refine ex_alloc ?_ _ | with_reducible refine ex_drew ?_ | ((with_reducible refine ex_setCell ?_ ?_ _); rotate_left; (first | omega | (simp; done) | (simp; omega))) | ((with_reducible refine ex_chg ?_ _ ?_); rotate_left; (first | assumption | (exact Hid.out (by assumption)))) | exact ex_over)), rfl⟩

namespace winBounds
open Go.ChangeShapes Go.WideShapes Go.ChangeAt
set_option maxRecDepth 100000 in
theorem lifted (os : Os) (started : os.Started) (H : Type) (enc : TypeId × Value → H) :
    ReturnsInHanded {} Try.checked os 6 .any (Rows.winBoundsSpec.pre6 enc Try.prog Try.f6 Rows.winBoundsRow.domain false) (Rows.winBoundsSpec.post enc Try.prog Try.f6 false true false false) := by
  refine returnsInHanded_of_change (C := Try.checked) ownKnob0 started (by kernel_rfl) Try.func6
    (ChangeSpec.witness6 (enc := enc) (C := Try.checked) false ⟨#[], #[.int .u16 0, .slice none 0 0], []⟩ 8 (by kernel_rfl) (by kernel_rfl) (by kernel_rfl) (by kernel_rfl)) ?_
  intro W base args ds gs before hval0 hW hcnd _
  have hval : ∀ (j : Nat) t v, Try.f6.params[j]? = some t → args[j]? = some v → Value.okWide Try.prog W .any base t v := hval0
  have hW' := hW
  obtain ⟨p, q, hA0, hV, rfl, hfz, hnd⟩ := hW
  have hA : DataW.TrodAll enc Try.prog W 0 (fun _ => true) true Try.f6.params.toList args.toList ds p := hA0
  rw [Try.params6] at hA hval
  obtain ⟨v0, vs0, d0, ds0, p0, q0, hargs, rfl, rfl, h0, r0⟩ := trodAll_cons hA
  obtain ⟨v1, vs1, d1, ds1, p1, q1, rfl, rfl, rfl, h1, r1⟩ := trodAll_cons r0
  obtain ⟨rfl, rfl, rfl⟩ := trodAll_nil r1
  obtain rfl : args = #[v0, v1] := by cases args; simp_all
  obtain ⟨rfl, rfl⟩ := trodVars_none hV
  have lt0 : ∀ x ∈ p0, x.block < W.heap.size := by obtain ⟨m, hm⟩ := h0; exact DataW.trod_lt m _ _ _ hm
  have k0 := h0
  obtain ⟨x0, rfl, _, _, w0⟩ := open_int Try.underlying48 (hval 0 48 v0 rfl rfl) h0
  have lt1 : ∀ x ∈ p1, x.block < W.heap.size := by obtain ⟨m, hm⟩ := h1; exact DataW.trod_lt m _ _ _ hm
  have k1 := h1
  obtain ⟨a1, n1, c1, rfl⟩ := okWide_slice Try.underlying27 (hval 1 27 v1 rfl rfl)
  obtain ⟨x1, rfl, s1, w1⟩ := open_wops h1
  clear hA0 hval0
  refine (winBounds_any x0 w0 x1 w1 a1 c1 W s1).mono fun e W' ⟨bel, he⟩ => ?_
  have bel := below_of_over bel
  subst he
  exact ⟨_, rfl, _, _, _, [], _, [], hW', trodAll_mk1 (shut_bool Try.underlying4 _), (trodAll_cons_mk (Below.trod laidOut0 (by kernel_rfl) (of_decide_eq_true (by kernel_rfl)) k0 bel lt0) (trodAll_cons_mk (Below.trod laidOut0 (by kernel_rfl) (of_decide_eq_true (by kernel_rfl)) k1 bel lt1) trodAll_mk0)), rfl, bel.frame _, fun h => by cases h⟩

theorem over : Rows.winBoundsRow.holds Try.pinned (OpenSpec.ofChange Rows.winBoundsSpec) :=
  OpenClaim.holds_of_wide 6 Try.f6 rfl rfl rfl rfl rfl rfl rfl ⟨rfl, rfl, rfl, rfl, rfl⟩ rfl rfl rfl rfl rfl (by kernel_rfl) Try.func6 (by kernel_rfl)
    (of_decide_eq_true (by kernel_rfl)) (by unfold Func.isWrapper; first | (rw [if_pos (by decide +kernel)]; kernel_rfl) | (rw [if_neg (by decide +kernel)]; exact ⟨rfl, rfl⟩))
    (fun os started H enc _ => lifted os started H enc)

theorem proved : Rows.WinBoundsSaid := over
end winBounds
end Go.Proofs.Ytbkekpfancbemaa
