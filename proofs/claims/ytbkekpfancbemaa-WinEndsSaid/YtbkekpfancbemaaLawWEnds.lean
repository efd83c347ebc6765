/- The law WinEnds holds: for every list of calls, every series and both ways the call returns true, and the arguments read as they did. -/
import Derived.Test.YtbkekpfancbemaaWinO
namespace Go.Proofs.Ytbkekpfancbemaa
set_option linter.unusedVariables false
set_option linter.unusedSimpArgs false
open Go.RowKit

def wfP (l : List Pc) : Prop := ∀ p ∈ l, p.wf
theorem wfP_add {most : Int} {l : List Pc} {p : Pc} (h : wfP l) (hp : p.wf) : wfP (addW most l p) := by
  unfold addW
  split
  · intro x hx
    rcases List.mem_append.1 hx with hx | hx
    · exact h x hx
    · simp at hx; subst hx; exact hp
  · exact h
theorem ack_last {s : Int} {l : List Pc} (h : wfP l) : outW (ackQ s ⟨4294967295, 0, 4294967295⟩) l = outW (dropQ s) l := by
  unfold outW
  refine List.filter_congr fun p hp => ?_
  have hw := (h p hp).2.2.1
  have h1 := hw.1.2
  have h2 := hw.2.2.2
  have : bef ⟨4294967295, 0, 4294967295⟩ p.t = false := by
    unfold bef
    split
    · simp; omega
    · simp; omega
  simp [ackQ, dropQ, this]
theorem dropQ_not (s : Int) (p : Pc) : (dropQ s p) = !(p.s != s) := by unfold dropQ; by_cases h : p.s = s <;> simp [h]

set_option maxRecDepth 100000 in
set_option maxHeartbeats 8000000 in
theorem winEnds_any (os : List Wo) (hwf : ∀ o ∈ os, o.wf) (a : Option Addr) (cap : Nat) (s : Int) (_hs : (Lit.int .u32 s).wf = true) (dr : Bool) (w : World) (hs : SlW w a cap os) :
    Calls Try.prog 7 #[.slice a os.length cap, .int .u32 s, .bool dr] w (Ret w (.bool true)) := by
  clear _hs
  have hmax := len_max hs
  have HK := hid known13_any
  cases hl : decide (100 < os.length)
  · have hle : os.length ≤ 100 := by have := of_decide_eq_false hl; omega
    clear hl
    have HN := hid (fun W => winNew_yes 1048576 (by omega) (by omega) w.heap.size W)
    have hok : Hid (winOk 1048576 []) := hid ⟨by simp [okPs], by simp [sumN], by omega⟩
    have hwp : Hid (wfP []) := hid (by simp [wfP])
    go_enter Try.func7, Try.ntmps7
    go_wp2_with (first
      | (go_at_call 16; (with_reducible refine (HK.out _).mono ?_); rintro _ _ ⟨⟨e1, rfl⟩, rfl⟩)
      | (go_at_call 18; (with_reducible refine (HN.out _ (by simp)).mono ?_); rintro _ _ ⟨rfl, rfl⟩))
    have HW1 := hid (show WinAt w.heap.size ((over w e1).alloc (.cells #[.int .i64 1048576, .int .i64 0, .slice none 0 0] 78)) (over w e1).heap.size 1048576 [] [(over w e1).heap.size] from WinAt.new (by simp))
    simp only [size_over] at HW1
    have hov : Ov w ((over w e1).alloc (.cells #[.int .i64 1048576, .int .i64 0, .slice none 0 0] 78)) := (by (try unfold Ov); repeat (first | with_reducible exact ex_over | with_reducible exact over_self _ | with_reducible refine ex_into ?_ _ | with_reducible refine ex_alloc ?_ _ | with_reducible refine ex_drew ?_ | ((with_reducible refine ex_setCell ?_ ?_ _); rotate_left; (first | omega | (simp; done) | (simp; omega))) | ((with_reducible refine ex_chg ?_ _ ?_); rotate_left; (first | assumption | (exact Hid.out (by assumption)))) | exact ex_over))
    generalize ((over w e1).alloc (.cells #[.int .i64 1048576, .int .i64 0, .slice none 0 0] 78)) = W1 at *
    generalize w.heap.size + e1.heap.size = p at *
    clear HN HK
    go_loopw [8] (fun i wr => ∃ (k : Nat) (xs : List Pc) (F : List Nat), k ≤ os.length ∧ i = .int .i64 k ∧ Ov w wr ∧ Hid (WinAt w.heap.size wr p 1048576 xs F) ∧ Hid (winOk 1048576 xs) ∧ Hid (wfP xs)) (fun i _ => os.length - (intOf i).toNat)
    case atStart => exact ⟨0, [], _, Nat.zero_le _, rfl, hov, HW1, hok, hwp⟩
    case round =>
      clear HW1 hok hov hwp W1
      obtain ⟨k, xs, F, hk, rfl, ⟨e, rfl⟩, HW, Hok, Hwp⟩ := hrel
      have HG := hid HW.out.ge
      by_cases hlt : k < os.length
      · obtain ⟨b, off, rfl, hb, d0, d1, d2, d3, d4, d5, d6, d7, d8⟩ := SlW.at_ hs hlt
        have HA := hid (winAdd_any HW.out Hok.out os[k].p (hwf _ (List.getElem_mem hlt)).2 (by simp))
        have HO := hid (winOk_add Hok.out os[k].p)
        have HQ := hid (wfP_add (most := 1048576) Hwp.out (hwf _ (List.getElem_mem hlt)).2)
        generalize addW 1048576 xs os[k].p = ys at *
        unfold Pc.v at HA
        go_wp2_with (go_at_call 21; refine HA.out.mono ?_; rintro _ _ ⟨rfl, m, F', rfl, hw, hf⟩; clear hf; have HW' := hid hw; clear hw)
        go_roundw
        case rel => exact ⟨k + 1, ys, F', by omega, by go_num, (by (try unfold Ov); repeat (first | with_reducible exact ex_over | with_reducible exact over_self _ | with_reducible refine ex_into ?_ _ | with_reducible refine ex_alloc ?_ _ | with_reducible refine ex_drew ?_ | ((with_reducible refine ex_setCell ?_ ?_ _); rotate_left; (first | omega | (simp; done) | (simp; omega))) | ((with_reducible refine ex_chg ?_ _ ?_); rotate_left; (first | assumption | (exact Hid.out (by assumption)))) | exact ex_over)), HW', HO, HQ⟩
        case measure => simp [intOf]; omega
      · have hxl := winOk_len Hok.out
        have HP := hid (fun W (hW : Ov (over w e) W) => winPieces_any (HW.out.chg (G := []) (Chg.of_ov hW []) (by simp)) (by omega))
        have HD := hid (fun W (hW : Ov (over w e) W) => winDrop_any (HW.out.chg (G := []) (Chg.of_ov hW []) (by simp)) Hok.out s)
        have HA := hid (fun W (hW : Ov (over w e) W) => winAck_any (HW.out.chg (G := []) (Chg.of_ov hW []) (by simp)) Hok.out s ⟨4294967295, 0, 4294967295⟩)
        rw [ack_last Hwp.out] at HA
        unfold Pl.v at HA
        have hyl := outW_len (dropQ s) xs
        obtain ⟨ys, hys⟩ : ∃ ys, ys = outW (dropQ s) xs := ⟨_, rfl⟩
        rw [← hys] at HA HD hyl
        have HY := hid hys
        have HS := hid (fun a b c d W h h' => sameP_any ys ys a b c d W h h')
        rw [decide_eq_true rfl] at HS
        clear hys
        cases dr
        all_goals
          go_wp2_with (first
            | (go_at_call 22; (with_reducible refine (HP.out _ (by (try unfold Ov); repeat (first | with_reducible exact ex_over | with_reducible exact over_self _ | with_reducible refine ex_into ?_ _ | with_reducible refine ex_alloc ?_ _ | with_reducible refine ex_drew ?_ | ((with_reducible refine ex_setCell ?_ ?_ _); rotate_left; (first | omega | (simp; done) | (simp; omega))) | ((with_reducible refine ex_chg ?_ _ ?_); rotate_left; (first | assumption | (exact Hid.out (by assumption)))) | exact ex_over))).mono ?_); rintro _ _ ⟨⟨e2, rfl⟩, v2, rfl, o2⟩; have HO2 := hid o2; obtain ⟨a2, c2, rfl, s2⟩ := Own.slice Pc.cs_len o2; clear o2))
          go_wp2_with (first
            | (go_at_call 20; (with_reducible refine (HD.out _ (by (try unfold Ov); repeat (first | with_reducible exact ex_over | with_reducible exact over_self _ | with_reducible refine ex_into ?_ _ | with_reducible refine ex_alloc ?_ _ | with_reducible refine ex_drew ?_ | ((with_reducible refine ex_setCell ?_ ?_ _); rotate_left; (first | omega | (simp; done) | (simp; omega))) | ((with_reducible refine ex_chg ?_ _ ?_); rotate_left; (first | assumption | (exact Hid.out (by assumption)))) | exact ex_over))).mono ?_); rintro _ _ ⟨rfl, m3, F3, rfl, hw, hf⟩; clear hf; have HW3 := hid hw; have G3 := hid hw.ge; clear hw)
            | (go_at_call 19; (with_reducible refine (HA.out _ (by (try unfold Ov); repeat (first | with_reducible exact ex_over | with_reducible exact over_self _ | with_reducible refine ex_into ?_ _ | with_reducible refine ex_alloc ?_ _ | with_reducible refine ex_drew ?_ | ((with_reducible refine ex_setCell ?_ ?_ _); rotate_left; (first | omega | (simp; done) | (simp; omega))) | ((with_reducible refine ex_chg ?_ _ ?_); rotate_left; (first | assumption | (exact Hid.out (by assumption)))) | exact ex_over))).mono ?_); rintro _ _ ⟨rfl, m3, F3, rfl, hw, hf⟩; clear hf; have HW3 := hid hw; have G3 := hid hw.ge; clear hw))
          have HP3 := hid (winPieces_any HW3.out (by omega))
          go_wp2_with (go_at_call 22; (with_reducible refine HP3.out.mono ?_); rintro _ _ ⟨⟨e4, rfl⟩, v4, rfl, o4⟩; obtain ⟨a4, c4, rfl, s4⟩ := Own.slice Pc.cs_len o4; clear o4)
          have s2' : SlP (over (chg F (over (over w e) e2) m3) e4) a2 c2 xs := by
            refine Sl.over (s2.chg (chg_chg _ _ _) (fun ad had hm => ?_)) e4
            subst had
            have h1 := (Own.lt HO2.out (g := ad.block) rfl).1
            have h2 := (HW.out.lt _ hm).2
            omega
          have hov : Ov w (over (chg F (over (over w e) e2) m3) e4) := (by (try unfold Ov); repeat (first | with_reducible exact ex_over | with_reducible exact over_self _ | with_reducible refine ex_into ?_ _ | with_reducible refine ex_alloc ?_ _ | with_reducible refine ex_drew ?_ | ((with_reducible refine ex_setCell ?_ ?_ _); rotate_left; (first | omega | (simp; done) | (simp; omega))) | ((with_reducible refine ex_chg ?_ _ ?_); rotate_left; (first | assumption | (exact Hid.out (by assumption)))) | exact ex_over))
          generalize over (chg F (over (over w e) e2) m3) e4 = W4 at *
          clear HP HD HA HP3 HW3 s2 HO2
          have m2 := len_max s2'
          go_loopw [11, 12] (fun l i wr => ∃ (k : Nat) (zs : List Pc), k ≤ xs.length ∧ i = .int .i64 k ∧ Ov W4 wr ∧ Own W4.heap.size 32 8 Pc.cs wr l zs ∧ zs.length ≤ k ∧ Hid (zs = outW (dropQ s) (xs.take k))) (fun _ i _ => xs.length - (intOf i).toNat)
          case atStart => exact ⟨0, [], Nat.zero_le _, rfl, over_self _, Own.nil _, Nat.le_refl _, hid rfl⟩
          case round =>
            obtain ⟨j, zs, hj, rfl, ⟨f, rfl⟩, hown, hzl, hzs⟩ := hrel
            by_cases hjl : j < xs.length
            · obtain ⟨b', off', rfl, hb', d0, d1, d2, d3, d4, d5, d6, d7⟩ := SlP.at_ s2' hjl
              cases hq : (xs[j].s != s)
              · have hsn := hid (show outW (dropQ s) (xs.take (j + 1)) = outW (dropQ s) (xs.take j) by rw [outW_snoc _ hjl, dropQ_not, hq]; simp)
                go_wp2_with fail
                go_roundw
                case rel => exact ⟨j + 1, zs, by omega, by go_num, (by (try unfold Ov); repeat (first | with_reducible exact ex_over | with_reducible exact over_self _ | with_reducible refine ex_into ?_ _ | with_reducible refine ex_alloc ?_ _ | with_reducible refine ex_drew ?_ | ((with_reducible refine ex_setCell ?_ ?_ _); rotate_left; (first | omega | (simp; done) | (simp; omega))) | ((with_reducible refine ex_chg ?_ _ ?_); rotate_left; (first | assumption | (exact Hid.out (by assumption)))) | exact ex_over)), (by repeat (first | with_reducible exact hown | ((with_reducible refine Own.set_ne ?_ ?_ _); rotate_left; (first | assumption | (focus (simp; done)) | (focus (simp [Value.ownBlock]; done)) | (focus (simp [Value.ownBlock]; omega)))) | ((with_reducible refine Own.in_some ?_ _ ?_); rotate_left; (first | assumption | (focus (simp; done)) | (focus (simp; omega)))) | ((with_reducible refine Own.in_one ?_ _ ?_); rotate_left; (first | assumption | (focus (simp [Value.ownBlock]; done)) | (focus (simp [Value.ownBlock]; omega)))) | ((with_reducible refine Own.chg ?_ (chg_chg _ _ _) ?_); rotate_left; (first | assumption | (focus (simp; done)) | (focus (simp; omega)))) | with_reducible refine Own.over ?_ _ | with_reducible refine Own.alloc ?_ _ | with_reducible refine Own.drew ?_ | exact hown)), by omega, hid (by rw [hsn.out, ← hzs.out])⟩
                case measure => simp [intOf]; omega
              · have hsn := hid (show outW (dropQ s) (xs.take (j + 1)) = outW (dropQ s) (xs.take j) ++ [xs[j]] by rw [outW_snoc _ hjl, dropQ_not, hq]; simp)
                go_wp2_with (at_builtin; refine wpList_append piece_elem Pc.cs_len Pc.cs_one rfl (.tmp 62) (.tmp 67) rfl (B := W4) (xs := [xs[j]]) hown rfl rfl (by (try unfold Ov); repeat (first | with_reducible exact ex_over | with_reducible exact over_self _ | with_reducible refine ex_into ?_ _ | with_reducible refine ex_alloc ?_ _ | with_reducible refine ex_drew ?_ | ((with_reducible refine ex_setCell ?_ ?_ _); rotate_left; (first | omega | (simp; done) | (simp; omega))) | ((with_reducible refine ex_chg ?_ _ ?_); rotate_left; (first | assumption | (exact Hid.out (by assumption)))) | exact ex_over)) (by (try unfold Ov); repeat (first | with_reducible exact ex_over | with_reducible exact over_self _ | with_reducible refine ex_into ?_ _ | with_reducible refine ex_alloc ?_ _ | with_reducible refine ex_drew ?_ | ((with_reducible refine ex_setCell ?_ ?_ _); rotate_left; (first | omega | (simp; done) | (simp; omega))) | ((with_reducible refine ex_chg ?_ _ ?_); rotate_left; (first | assumption | (exact Hid.out (by assumption)))) | exact ex_over)) (by simp) (by simp; try omega) (by first | exact Sl.one_new (y := xs[j]) (by simp; try omega) | exact Sl.drew (Sl.one_new (y := xs[j]) (by simp; try omega))) (by simp only [List.length_append, List.length_singleton]; unfold maxLen; omega) (by simp only [List.length_append, List.length_singleton]; omega) ?_; intro v' x' hown' _ _)
                go_roundw
                case rel => exact ⟨j + 1, _, by omega, by go_num, (by (try unfold Ov); repeat (first | with_reducible exact ex_over | with_reducible exact over_self _ | with_reducible refine ex_into ?_ _ | with_reducible refine ex_alloc ?_ _ | with_reducible refine ex_drew ?_ | ((with_reducible refine ex_setCell ?_ ?_ _); rotate_left; (first | omega | (simp; done) | (simp; omega))) | ((with_reducible refine ex_chg ?_ _ ?_); rotate_left; (first | assumption | (exact Hid.out (by assumption)))) | exact ex_over)), hown', by simp; omega, hid (by rw [hsn.out, ← hzs.out])⟩
                case measure => simp [intOf]; omega
            · have hz : zs = ys := by rw [hzs.out, HY.out, List.take_of_length_le (by omega)]
              subst hz
              obtain ⟨a5, c5, rfl, s5⟩ := Own.slice Pc.cs_len hown
              go_wp2_with (go_at_call 29; (with_reducible refine (HS.out _ _ _ _ _ (by repeat (first | with_reducible exact s4 | with_reducible refine Sl.over ?_ _ | with_reducible refine Sl.alloc ?_ _ | with_reducible refine Sl.drew ?_ | exact s4)) (by repeat (first | with_reducible exact s5 | with_reducible refine Sl.over ?_ _ | with_reducible refine Sl.alloc ?_ _ | with_reducible refine Sl.drew ?_ | exact s5))).mono ?_); rintro _ _ ⟨⟨e7, rfl⟩, rfl⟩)
              go_ret
              exact ⟨over_trans hov (by (try unfold Ov); repeat (first | with_reducible exact ex_over | with_reducible exact over_self _ | with_reducible refine ex_into ?_ _ | with_reducible refine ex_alloc ?_ _ | with_reducible refine ex_drew ?_ | ((with_reducible refine ex_setCell ?_ ?_ _); rotate_left; (first | omega | (simp; done) | (simp; omega))) | ((with_reducible refine ex_chg ?_ _ ?_); rotate_left; (first | assumption | (exact Hid.out (by assumption)))) | exact ex_over)), rfl⟩
  · have hlt : 100 < os.length := of_decide_eq_true hl
    go_enter Try.func7, Try.ntmps7
    go_wp2_with (go_at_call 16; (with_reducible refine (HK.out _).mono ?_); rintro _ _ ⟨⟨e1, rfl⟩, rfl⟩)
    go_ret
    exact ⟨(by (try unfold Ov); repeat (first | with_reducible exact ex_over | with_reducible exact over_self _ | with_reducible refine ex_into ?_ _ | with_reducible refine ex_alloc ?_ _ | with_reducible refine ex_drew ?_ | ((with_reducible refine ex_setCell ?_ ?_ _); rotate_left; (first | omega | (simp; done) | (simp; omega))) | ((with_reducible refine ex_chg ?_ _ ?_); rotate_left; (first | assumption | (exact Hid.out (by assumption)))) | exact ex_over)), rfl⟩

namespace winEnds
open Go.ChangeShapes Go.WideShapes Go.ChangeAt
set_option maxRecDepth 100000 in
theorem lifted (os : Os) (started : os.Started) (H : Type) (enc : TypeId × Value → H) :
    ReturnsInHanded {} Try.checked os 7 .any (Rows.winEndsSpec.pre6 enc Try.prog Try.f7 Rows.winEndsRow.domain false) (Rows.winEndsSpec.post enc Try.prog Try.f7 false true false false) := by
  refine returnsInHanded_of_change (C := Try.checked) ownKnob0 started (by kernel_rfl) Try.func7
    (ChangeSpec.witness6 (enc := enc) (C := Try.checked) false ⟨#[], #[.slice none 0 0, .int .u32 0, .bool false], []⟩ 8 (by kernel_rfl) (by kernel_rfl) (by kernel_rfl) (by kernel_rfl)) ?_
  intro W base args ds gs before hval0 hW hcnd _
  have hval : ∀ (j : Nat) t v, Try.f7.params[j]? = some t → args[j]? = some v → Value.okWide Try.prog W .any base t v := hval0
  have hW' := hW
  obtain ⟨p, q, hA0, hV, rfl, hfz, hnd⟩ := hW
  have hA : DataW.TrodAll enc Try.prog W 0 (fun _ => true) true Try.f7.params.toList args.toList ds p := hA0
  rw [Try.params7] at hA hval
  obtain ⟨v0, vs0, d0, ds0, p0, q0, hargs, rfl, rfl, h0, r0⟩ := trodAll_cons hA
  obtain ⟨v1, vs1, d1, ds1, p1, q1, rfl, rfl, rfl, h1, r1⟩ := trodAll_cons r0
  obtain ⟨v2, vs2, d2, ds2, p2, q2, rfl, rfl, rfl, h2, r2⟩ := trodAll_cons r1
  obtain ⟨rfl, rfl, rfl⟩ := trodAll_nil r2
  obtain rfl : args = #[v0, v1, v2] := by cases args; simp_all
  obtain ⟨rfl, rfl⟩ := trodVars_none hV
  have lt0 : ∀ x ∈ p0, x.block < W.heap.size := by obtain ⟨m, hm⟩ := h0; exact DataW.trod_lt m _ _ _ hm
  have k0 := h0
  obtain ⟨a0, n0, c0, rfl⟩ := okWide_slice Try.underlying27 (hval 0 27 v0 rfl rfl)
  obtain ⟨x0, rfl, s0, w0⟩ := open_wops h0
  have lt1 : ∀ x ∈ p1, x.block < W.heap.size := by obtain ⟨m, hm⟩ := h1; exact DataW.trod_lt m _ _ _ hm
  have k1 := h1
  obtain ⟨x1, rfl, _, _, w1⟩ := open_int Try.underlying22 (hval 1 22 v1 rfl rfl) h1
  have lt2 : ∀ x ∈ p2, x.block < W.heap.size := by obtain ⟨m, hm⟩ := h2; exact DataW.trod_lt m _ _ _ hm
  have k2 := h2
  obtain ⟨x2, rfl, _, _⟩ := open_bool Try.underlying4 (hval 2 4 v2 rfl rfl) h2
  clear hA0 hval0
  refine (winEnds_any x0 w0 a0 c0 x1 w1 x2 W s0).mono fun e W' ⟨bel, he⟩ => ?_
  have bel := below_of_over bel
  subst he
  exact ⟨_, rfl, _, _, _, [], _, [], hW', trodAll_mk1 (shut_bool Try.underlying4 _), (trodAll_cons_mk (Below.trod laidOut0 (by kernel_rfl) (of_decide_eq_true (by kernel_rfl)) k0 bel lt0) (trodAll_cons_mk (Below.trod laidOut0 (by kernel_rfl) (of_decide_eq_true (by kernel_rfl)) k1 bel lt1) (trodAll_cons_mk (Below.trod laidOut0 (by kernel_rfl) (of_decide_eq_true (by kernel_rfl)) k2 bel lt2) trodAll_mk0))), rfl, bel.frame _, fun h => by cases h⟩

theorem over : Rows.winEndsRow.holds Try.pinned (OpenSpec.ofChange Rows.winEndsSpec) :=
  OpenClaim.holds_of_wide 7 Try.f7 rfl rfl rfl rfl rfl rfl rfl ⟨rfl, rfl, rfl, rfl, rfl⟩ rfl rfl rfl rfl rfl (by kernel_rfl) Try.func7 (by kernel_rfl)
    (of_decide_eq_true (by kernel_rfl)) (by unfold Func.isWrapper; first | (rw [if_pos (by decide +kernel)]; kernel_rfl) | (rw [if_neg (by decide +kernel)]; exact ⟨rfl, rfl⟩))
    (fun os started H enc _ => lifted os started H enc)

theorem proved : Rows.WinEndsSaid := over
end winEnds
end Go.Proofs.Ytbkekpfancbemaa
