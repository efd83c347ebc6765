/- Walks: the reference's Meet. -/
import Derived.Test.YtbkekpfancbemaaSpanL
namespace Go.Proofs.Ytbkekpfancbemaa
set_option linter.unusedVariables false
set_option linter.unusedSimpArgs false
open Go.RowKit

def rmeetRow (x : Sp) (ys : List Sp) : List Sp := ys.flatMap fun y => meetPut x y []
def rmeetGo (xs ys : List Sp) : List Sp := xs.flatMap fun x => rmeetRow x ys
def rmeetS (a b : List Sp) : List Sp := if soundB a && soundB b then rmeetGo a b else []
theorem meetPut_app (x y : Sp) (out : List Sp) : meetPut x y out = out ++ meetPut x y [] := by unfold meetPut; split <;> simp
theorem meetPut_len (x y : Sp) : (meetPut x y []).length ≤ 1 := by unfold meetPut; split <;> simp
theorem rmeetRow_len (x : Sp) (ys : List Sp) : (rmeetRow x ys).length ≤ ys.length := by
  induction ys with
  | nil => simp [rmeetRow]
  | cons y l ih => have := meetPut_len x y; simp only [rmeetRow, List.flatMap_cons, List.length_append, List.length_cons] at *; omega
theorem rmeetGo_len (xs ys : List Sp) : (rmeetGo xs ys).length ≤ xs.length * ys.length := by
  induction xs with
  | nil => simp [rmeetGo]
  | cons x l ih => have := rmeetRow_len x ys; simp only [rmeetGo, List.flatMap_cons, List.length_append, List.length_cons, Nat.add_mul] at *; omega
theorem rmeetRow_snoc {x : Sp} {ys : List Sp} {m : Nat} (h : m < ys.length) : rmeetRow x (ys.take (m + 1)) = rmeetRow x (ys.take m) ++ meetPut x ys[m] [] := by rw [take_snoc' h, rmeetRow, List.flatMap_append, List.flatMap_singleton, ← rmeetRow]
theorem rmeetGo_snoc {xs ys : List Sp} {k : Nat} (h : k < xs.length) : rmeetGo (xs.take (k + 1)) ys = rmeetGo (xs.take k) ys ++ rmeetRow xs[k] ys := by rw [take_snoc' h, rmeetGo, List.flatMap_append, List.flatMap_singleton, ← rmeetGo]

def RMeetRes (k : IntKind) (xs ys : List Sp) (w : World) (en : Ending) (w' : World) : Prop := SpRes k (okN (soundB xs && soundB ys)) (rmeetS xs ys) w en w'
theorem RMeetRes.bad {k : IntKind} {w w' : World} {xs ys : List Sp} (h : (soundB xs && soundB ys) = false) (ho : ∃ e, w' = over w e) : RMeetRes k xs ys w (.returned (.tuple #[.slice none 0 0, .int k 1])) w' := by
  refine ⟨ho, .slice none 0 0, by simp [h, okN], ?_⟩
  simp only [rmeetS, h]
  exact Own.nil w'

set_option maxRecDepth 100000 in
set_option maxHeartbeats 4000000 in
theorem rmeet_any (xs ys : List Sp) (hwf : ∀ x ∈ xs, x.wf) (hwf' : ∀ x ∈ ys, x.wf) (a b : Option Addr) (cap cap' : Nat) (w : World) (hs : SlS w a cap xs) (hs' : SlS w b cap' ys) (hb : xs.length ≤ 1000) (hb' : ys.length ≤ 1000) :
    Calls Try.prog 45 #[.slice a xs.length cap, .slice b ys.length cap'] w (RMeetRes .i64 xs ys w) := by
  have hmax := len_max hs
  have hmax' := len_max hs'
  cases h1 : soundB xs <;> cases h2 : soundB ys
  rotate_right
  · have HS := hid (fun W h => h1 ▸ rsound_any xs hwf a cap W h)
    have HT := hid (fun W h => h2 ▸ rsound_any ys hwf' b cap' W h)
    have H1 := hid h1
    have H2 := hid h2
    clear h1 h2
    go_enter Try.func45, Try.ntmps45
    go_wp2_with (first | (go_at_call 41; (with_reducible refine (HS.out _ hs).mono ?_); rintro _ _ ⟨⟨e, rfl⟩, rfl⟩) | (go_at_call 41; (with_reducible refine (HT.out _ (hs'.over _)).mono ?_); rintro _ _ ⟨⟨e2, rfl⟩, rfl⟩))
    go_loopw [8, 9] (fun out i wr => ∃ (k : Nat) (zs : List Sp), k ≤ xs.length ∧ i = .int .i64 k ∧ Ov w wr ∧ OwnS w.heap.size wr out zs ∧ Hid (zs = rmeetGo (xs.take k) ys)) (fun _ i _ => xs.length - (intOf i).toNat)
    case atStart => exact ⟨0, [], Nat.zero_le _, rfl, (by (try unfold Ov); repeat (first | with_reducible exact ex_over | with_reducible exact over_self _ | with_reducible refine ex_into ?_ _ | with_reducible refine ex_alloc ?_ _ | with_reducible refine ex_drew ?_ | ((with_reducible refine ex_setCell ?_ ?_ _); rotate_left; (first | omega | (simp; done) | (simp; omega))) | exact ex_over)), Own.nil _, hid rfl⟩
    case round =>
      obtain ⟨k, zs, hk, rfl, ⟨e, rfl⟩, hown, hzs⟩ := hrel
      by_cases hlt : k < xs.length
      · obtain ⟨b1, o1, rfl, hb1, x0, x1⟩ := hs.at_ hlt
        have hzl : zs.length ≤ 1000000 := by
          rw [hzs.out]
          have := rmeetGo_len (xs.take k) ys
          have h2 : (xs.take k).length ≤ 1000 := by simp; omega
          have h3 := Nat.mul_le_mul h2 hb'
          omega
        go_wp2_with fail
        go_loopw [8, 10] (fun out j wr => ∃ (m : Nat) (us : List Sp), m ≤ ys.length ∧ j = .int .i64 m ∧ Ov w wr ∧ OwnS w.heap.size wr out us ∧ us.length ≤ zs.length + m ∧ Hid (us = zs ++ rmeetRow xs[k] (ys.take m))) (fun _ j _ => ys.length - (intOf j).toNat)
        case atStart => exact ⟨0, zs, Nat.zero_le _, rfl, (by (try unfold Ov); repeat (first | with_reducible exact ex_over | with_reducible exact over_self _ | with_reducible refine ex_into ?_ _ | with_reducible refine ex_alloc ?_ _ | with_reducible refine ex_drew ?_ | ((with_reducible refine ex_setCell ?_ ?_ _); rotate_left; (first | omega | (simp; done) | (simp; omega))) | exact ex_over)), (by repeat (first | with_reducible exact hown | with_reducible refine Own.over ?_ _ | with_reducible refine Own.alloc ?_ _ | with_reducible refine Own.drew ?_ | exact hown)), Nat.le_refl _, hid (by simp [rmeetRow])⟩
        case round =>
          obtain ⟨m, us, hm, rfl, ⟨e2, rfl⟩, howu, hul, hus⟩ := hrel
          by_cases hml : m < ys.length
          · obtain ⟨b2, o2, rfl, hb2, y0, y1⟩ := hs'.at_ hml
            obtain ⟨M, hM⟩ : ∃ M, M = meet2 xs[k] ys[m] := ⟨_, rfl⟩
            have e1 : (if xs[k].f < ys[m].f then ys[m].f else xs[k].f) = M.f := by rw [hM]; rfl
            have e2' : (if ys[m].t < xs[k].t then ys[m].t else xs[k].t) = M.t := by rw [hM]; rfl
            have HM := hid hM
            clear hM
            cases h3 : decide (M.f ≤ M.t)
            · have H3 := hid (show meetPut xs[k] ys[m] [] = [] from meetPut_no (by rw [← HM.out]; exact h3))
              go_wp2_with fail
              refine wp_region_mix [23, 24] (by kernel_rfl) (by kernel_rfl) ?_
              refine mixL_quiet 23 (by kernel_rfl) ?_
              simp only [List.take_succ_cons, List.take_zero, List.drop_succ_cons, List.drop_zero]
              repeat (go_big_quiet_step (fail))
              refine wpQuiet_nil ?_
              refine mixL_eff rfl ?_
              go_wp2_with (fail)
              refine MixQ.mk (by (try unfold Ov); repeat (first | with_reducible exact ex_over | with_reducible exact over_self _ | with_reducible refine ex_into ?_ _ | with_reducible refine ex_alloc ?_ _ | with_reducible refine ex_drew ?_ | ((with_reducible refine ex_setCell ?_ ?_ _); rotate_left; (first | omega | (simp; done) | (simp; omega))) | exact ex_over)) ?_
              refine mixL_eff rfl ?_
              go_wp2_with (fail)
              refine MixQ.mk (by (try unfold Ov); repeat (first | with_reducible exact ex_over | with_reducible exact over_self _ | with_reducible refine ex_into ?_ _ | with_reducible refine ex_alloc ?_ _ | with_reducible refine ex_drew ?_ | ((with_reducible refine ex_setCell ?_ ?_ _); rotate_left; (first | omega | (simp; done) | (simp; omega))) | exact ex_over)) ?_
              refine mixL_nil ?_
              go_wp2_with fail
              go_roundw
              case rel => exact ⟨m + 1, us, by omega, by go_num, (by (try unfold Ov); repeat (first | with_reducible exact ex_over | with_reducible exact over_self _ | with_reducible refine ex_into ?_ _ | with_reducible refine ex_alloc ?_ _ | with_reducible refine ex_drew ?_ | ((with_reducible refine ex_setCell ?_ ?_ _); rotate_left; (first | omega | (simp; done) | (simp; omega))) | exact ex_over)), (by repeat (first | with_reducible exact howu | with_reducible refine Own.over ?_ _ | with_reducible refine Own.alloc ?_ _ | with_reducible refine Own.drew ?_ | exact howu)), by omega, hid (by rw [rmeetRow_snoc hml, H3.out, List.append_nil]; exact hus.out)⟩
              case measure => simp [intOf]; omega
            · have H3 := hid (show meetPut xs[k] ys[m] [] = [M] from by rw [HM.out]; exact meetPut_yes (by rw [← HM.out]; exact h3))
              go_wp2_with fail
              refine wp_region_mix [23, 24] (by kernel_rfl) (by kernel_rfl) ?_
              refine mixL_quiet 23 (by kernel_rfl) ?_
              simp only [List.take_succ_cons, List.take_zero, List.drop_succ_cons, List.drop_zero]
              repeat (go_big_quiet_step (fail))
              refine wpQuiet_nil ?_
              refine mixL_eff rfl ?_
              go_wp2_with (fail)
              refine MixQ.mk (by (try unfold Ov); repeat (first | with_reducible exact ex_over | with_reducible exact over_self _ | with_reducible refine ex_into ?_ _ | with_reducible refine ex_alloc ?_ _ | with_reducible refine ex_drew ?_ | ((with_reducible refine ex_setCell ?_ ?_ _); rotate_left; (first | omega | (simp; done) | (simp; omega))) | exact ex_over)) ?_
              refine mixL_eff rfl ?_
              go_wp2_with (fail)
              refine MixQ.mk (by (try unfold Ov); repeat (first | with_reducible exact ex_over | with_reducible exact over_self _ | with_reducible refine ex_into ?_ _ | with_reducible refine ex_alloc ?_ _ | with_reducible refine ex_drew ?_ | ((with_reducible refine ex_setCell ?_ ?_ _); rotate_left; (first | omega | (simp; done) | (simp; omega))) | exact ex_over)) ?_
              refine mixL_nil ?_
              go_wp2_with (at_builtin; refine wpList_append span_elem Sp.cs_len Sp.cs_one rfl (.tmp 62) (.tmp 64) rfl (B := w) (xs := [M]) howu rfl rfl (by (try unfold Ov); repeat (first | with_reducible exact ex_over | with_reducible exact over_self _ | with_reducible refine ex_into ?_ _ | with_reducible refine ex_alloc ?_ _ | with_reducible refine ex_drew ?_ | ((with_reducible refine ex_setCell ?_ ?_ _); rotate_left; (first | omega | (simp; done) | (simp; omega))) | exact ex_over)) (by (try unfold Ov); repeat (first | with_reducible exact ex_over | with_reducible exact over_self _ | with_reducible refine ex_into ?_ _ | with_reducible refine ex_alloc ?_ _ | with_reducible refine ex_drew ?_ | ((with_reducible refine ex_setCell ?_ ?_ _); rotate_left; (first | omega | (simp; done) | (simp; omega))) | exact ex_over)) (by simp) (by simp; try omega) (by first | exact Sl.one_new (y := M) (by simp; try omega) | exact Sl.drew (Sl.one_new (y := M) (by simp; try omega))) (by simp only [List.length_append, List.length_singleton]; unfold maxLen; omega) (by simp only [List.length_append, List.length_singleton]; omega) ?_; intro v' x' hown' _ _)
              go_roundw
              case rel => exact ⟨m + 1, _, by omega, by go_num, (by (try unfold Ov); repeat (first | with_reducible exact ex_over | with_reducible exact over_self _ | with_reducible refine ex_into ?_ _ | with_reducible refine ex_alloc ?_ _ | with_reducible refine ex_drew ?_ | ((with_reducible refine ex_setCell ?_ ?_ _); rotate_left; (first | omega | (simp; done) | (simp; omega))) | exact ex_over)), hown', by simp; omega, hid (by rw [rmeetRow_snoc hml, H3.out, hus.out, List.append_assoc])⟩
              case measure => simp [intOf]; omega
          · go_wp2_with fail
            go_roundw
            case rel =>
              have h := hus.out
              rw [List.take_of_length_le (by omega)] at h
              exact ⟨k + 1, us, by omega, by go_num, (by (try unfold Ov); repeat (first | with_reducible exact ex_over | with_reducible exact over_self _ | with_reducible refine ex_into ?_ _ | with_reducible refine ex_alloc ?_ _ | with_reducible refine ex_drew ?_ | ((with_reducible refine ex_setCell ?_ ?_ _); rotate_left; (first | omega | (simp; done) | (simp; omega))) | exact ex_over)), (by repeat (first | with_reducible exact howu | with_reducible refine Own.over ?_ _ | with_reducible refine Own.alloc ?_ _ | with_reducible refine Own.drew ?_ | exact howu)), hid (by rw [rmeetGo_snoc hlt, ← hzs.out]; exact h)⟩
            case measure => simp [intOf]; omega
      · go_wp2_with fail
        go_ret2
        have h := hzs.out
        rw [List.take_of_length_le (by omega)] at h
        refine ⟨(by (try unfold Ov); repeat (first | with_reducible exact ex_over | with_reducible exact over_self _ | with_reducible refine ex_into ?_ _ | with_reducible refine ex_alloc ?_ _ | with_reducible refine ex_drew ?_ | ((with_reducible refine ex_setCell ?_ ?_ _); rotate_left; (first | omega | (simp; done) | (simp; omega))) | exact ex_over)), _, by rw [H1.out, H2.out]; rfl, ?_⟩
        have : rmeetS xs ys = zs := by rw [rmeetS, H1.out, H2.out, h]; rfl
        rw [this]
        exact hown
  all_goals
    have HS := hid (fun W h => h1 ▸ rsound_any xs hwf a cap W h)
    have HT := hid (fun W h => h2 ▸ rsound_any ys hwf' b cap' W h)
    have H1 := hid h1
    have H2 := hid h2
    clear h1 h2
    go_enter Try.func45, Try.ntmps45
    go_wp2_with (first | (go_at_call 41; (with_reducible refine (HS.out _ hs).mono ?_); rintro _ _ ⟨⟨e, rfl⟩, rfl⟩) | (go_at_call 41; (with_reducible refine (HT.out _ (hs'.over _)).mono ?_); rintro _ _ ⟨⟨e2, rfl⟩, rfl⟩))
    go_ret2
    exact RMeetRes.bad (by rw [H1.out, H2.out]; rfl) (by (try unfold Ov); repeat (first | with_reducible exact ex_over | with_reducible exact over_self _ | with_reducible refine ex_into ?_ _ | with_reducible refine ex_alloc ?_ _ | with_reducible refine ex_drew ?_ | ((with_reducible refine ex_setCell ?_ ?_ _); rotate_left; (first | omega | (simp; done) | (simp; omega))) | exact ex_over))
end Go.Proofs.Ytbkekpfancbemaa
