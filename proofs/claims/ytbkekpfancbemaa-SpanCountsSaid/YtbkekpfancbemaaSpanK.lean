/- Walks: the reference's Add and Count, draymanlaw23.set. -/
import Derived.Test.YtbkekpfancbemaaSpanJ
import Derived.Test.YtbkekpfancbemaaMix
namespace Go.Proofs.Ytbkekpfancbemaa
set_option linter.unusedVariables false
set_option linter.unusedSimpArgs false
open Go.RowKit

def raddS (l : List Sp) (s : Sp) : List Sp := if okSp l s then joinR (l ++ [s]) else []

set_option maxHeartbeats 2000000 in
theorem radd_any (xs : List Sp) (hwf : ∀ x ∈ xs, x.wf) (s : Sp) (a : Option Addr) (cap : Nat) (w : World) (hs : SlS w a cap xs) (hb : xs.length ≤ 10000) :
    Calls Try.prog 33 #[.slice a xs.length cap, s.v] w (SpRes .i64 (okN (okSp xs s)) (raddS xs s) w) := by
  have hmax := len_max hs
  unfold Sp.v
  cases hso : soundB xs
  · have HS := hid (fun W h => hso ▸ rsound_any xs hwf a cap W h)
    have Hso := hid hso
    clear hso
    go_enter Try.func33, Try.ntmps33
    go_wp2_with (go_at_call 41; refine (HS.out _ (hs.alloc _)).mono ?_; rintro _ _ ⟨⟨e, rfl⟩, rfl⟩)
    go_ret2
    refine ⟨(by (try unfold Ov); repeat (first | with_reducible exact ex_over | with_reducible exact over_self _ | with_reducible refine ex_into ?_ _ | with_reducible refine ex_alloc ?_ _ | with_reducible refine ex_drew ?_ | ((with_reducible refine ex_setCell ?_ ?_ _); rotate_left; (first | omega | (simp; done) | (simp; omega))) | exact ex_over)), .slice none 0 0, by rw [okSp_no1 Hso.out]; rfl, ?_⟩
    rw [raddS, okSp_no1 Hso.out]
    exact Own.nil _
  · have HS := hid (fun W h => hso ▸ rsound_any xs hwf a cap W h)
    have Hso := hid hso
    clear hso
    cases hft : decide (s.t < s.f)
    · have Hft := hid hft
      obtain ⟨zs, hzs⟩ : ∃ zs, zs = xs ++ [s] := ⟨_, rfl⟩
      have hzl : zs.length ≤ 100000 := by rw [hzs]; simp; omega
      have Hzs := hid hzs
      clear hzs
      go_enter Try.func33, Try.ntmps33
      go_wp2_with (first | (go_at_call 41; refine (HS.out _ (hs.alloc _)).mono ?_; rintro _ _ ⟨⟨e, rfl⟩, rfl⟩) | (at_builtin; refine wpList_append span_elem Sp.cs_len Sp.cs_one rfl (.tmp 19) (.tmp 20) rfl (B := w.alloc (.cells #[.int .i64 s.f, .int .i64 s.t] 53)) (ys := []) (xs := xs) (Own.nil (base := w.heap.size + 1) _) rfl rfl (over_self _) (by (try unfold Ov); repeat (first | with_reducible exact ex_over | with_reducible exact over_self _ | with_reducible refine ex_into ?_ _ | with_reducible refine ex_alloc ?_ _ | with_reducible refine ex_drew ?_ | ((with_reducible refine ex_setCell ?_ ?_ _); rotate_left; (first | omega | (simp; done) | (simp; omega))) | exact ex_over)) (by simp) (by simp; try omega) (by repeat (first | with_reducible exact hs | with_reducible refine Sl.over ?_ _ | with_reducible refine Sl.alloc ?_ _ | with_reducible refine Sl.drew ?_ | exact hs)) (by unfold maxLen; simp; omega) (by simp; omega) ?_; intro v1 x1 hown1 _ _; rw [List.nil_append] at hown1) | (at_builtin; refine wpList_append span_elem Sp.cs_len Sp.cs_one rfl (.tmp 22) (.tmp 24) rfl (B := w.alloc (.cells #[.int .i64 s.f, .int .i64 s.t] 53)) (xs := [s]) hown1 rfl rfl (by (try unfold Ov); repeat (first | with_reducible exact ex_over | with_reducible exact over_self _ | with_reducible refine ex_into ?_ _ | with_reducible refine ex_alloc ?_ _ | with_reducible refine ex_drew ?_ | ((with_reducible refine ex_setCell ?_ ?_ _); rotate_left; (first | omega | (simp; done) | (simp; omega))) | exact ex_over)) (by (try unfold Ov); repeat (first | with_reducible exact ex_over | with_reducible exact over_self _ | with_reducible refine ex_into ?_ _ | with_reducible refine ex_alloc ?_ _ | with_reducible refine ex_drew ?_ | ((with_reducible refine ex_setCell ?_ ?_ _); rotate_left; (first | omega | (simp; done) | (simp; omega))) | exact ex_over)) (by simp) (by simp; try omega) (by first | exact Sl.one_new (y := s) (by simp; try omega) | exact Sl.drew (Sl.one_new (y := s) (by simp; try omega))) (by simp only [List.length_append, List.length_singleton]; unfold maxLen; omega) (by simp only [List.length_append, List.length_singleton]; omega) ?_; intro v2 x2 hown2 _ _; rw [← Hzs.out] at hown2; obtain ⟨a2, c2, rfl, hs2⟩ := Own.slice Sp.cs_len hown2) | (go_at_call 56; refine (joined_any zs a2 c2 _ hs2 hzl).mono ?_; rintro _ _ ⟨⟨e3, rfl⟩, v3, rfl, hown3⟩))
      go_ret2
      refine ⟨(by (try unfold Ov); repeat (first | with_reducible exact ex_over | with_reducible exact over_self _ | with_reducible refine ex_into ?_ _ | with_reducible refine ex_alloc ?_ _ | with_reducible refine ex_drew ?_ | ((with_reducible refine ex_setCell ?_ ?_ _); rotate_left; (first | omega | (simp; done) | (simp; omega))) | exact ex_over)), _, by rw [okSp_yes Hso.out Hft.out]; rfl, ?_⟩
      rw [raddS, okSp_yes Hso.out Hft.out, if_pos rfl, ← Hzs.out]
      exact Own.mono hown3 (by simp; omega)
    · have Hft := hid hft
      go_enter Try.func33, Try.ntmps33
      go_wp2_with (go_at_call 41; refine (HS.out _ (hs.alloc _)).mono ?_; rintro _ _ ⟨⟨e, rfl⟩, rfl⟩)
      go_ret2
      refine ⟨(by (try unfold Ov); repeat (first | with_reducible exact ex_over | with_reducible exact over_self _ | with_reducible refine ex_into ?_ _ | with_reducible refine ex_alloc ?_ _ | with_reducible refine ex_drew ?_ | ((with_reducible refine ex_setCell ?_ ?_ _); rotate_left; (first | omega | (simp; done) | (simp; omega))) | exact ex_over)), .slice none 0 0, by rw [okSp_no2 Hft.out]; rfl, ?_⟩
      rw [raddS, okSp_no2 Hft.out]
      exact Own.nil _

set_option maxHeartbeats 1000000 in
theorem rcount_any (xs : List Sp) (hwf : ∀ x ∈ xs, x.wf) (a : Option Addr) (cap : Nat) (w : World) (hs : SlS w a cap xs) :
    Calls Try.prog 39 #[.slice a xs.length cap] w (Ret w (countV xs)) := by
  have hmax := len_max hs
  cases hso : soundB xs
  · have HS := hid (fun W h => hso ▸ rsound_any xs hwf a cap W h)
    have Hso := hid hso
    clear hso
    go_enter Try.func39, Try.ntmps39
    go_wp2_with (go_at_call 41; refine (HS.out _ hs).mono ?_; rintro _ _ ⟨⟨e, rfl⟩, rfl⟩)
    go_ret2
    exact ⟨(by (try unfold Ov); repeat (first | with_reducible exact ex_over | with_reducible exact over_self _ | with_reducible refine ex_into ?_ _ | with_reducible refine ex_alloc ?_ _ | with_reducible refine ex_drew ?_ | ((with_reducible refine ex_setCell ?_ ?_ _); rotate_left; (first | omega | (simp; done) | (simp; omega))) | exact ex_over)), congrArg Ending.returned (countV_no Hso.out)⟩
  · have HS := hid (fun W h => hso ▸ rsound_any xs hwf a cap W h)
    have Hso := hid hso
    clear hso
    go_enter Try.func39, Try.ntmps39
    go_wp2_with (go_at_call 41; refine (HS.out _ hs).mono ?_; rintro _ _ ⟨⟨e, rfl⟩, rfl⟩)
    go_loopw [5, 6] (fun n i wr => ∃ (k : Nat) (N : Int), k ≤ xs.length ∧ i = .int .i64 k ∧ Ov w wr ∧ n = .int .u64 N ∧ Hid (N = cntW (xs.take k))) (fun _ i _ => xs.length - (intOf i).toNat)
    case atStart => exact ⟨0, 0, Nat.zero_le _, rfl, (by (try unfold Ov); repeat (first | with_reducible exact ex_over | with_reducible exact over_self _ | with_reducible refine ex_into ?_ _ | with_reducible refine ex_alloc ?_ _ | with_reducible refine ex_drew ?_ | ((with_reducible refine ex_setCell ?_ ?_ _); rotate_left; (first | omega | (simp; done) | (simp; omega))) | exact ex_over)), rfl, hid cntW_nil.symm⟩
    case round =>
      obtain ⟨k, N, hk, rfl, ⟨e, rfl⟩, rfl, hN⟩ := hrel
      by_cases hlt : k < xs.length
      · obtain ⟨b, off, rfl, hb, c0, c1⟩ := hs.at_ hlt
        go_wp2
        refine wp_region_over (by kernel_rfl) (by kernel_rfl) ?_
        repeat (go_big_quiet_step (fail))
        refine wpQuiet_nil ?_
        intro _ hw'
        obtain ⟨nq, rfl⟩ := hw'
        go_wp2
        go_roundw
        case rel => exact ⟨k + 1, _, by omega, by go_num, (by (try unfold Ov); repeat (first | with_reducible exact ex_over | with_reducible exact over_self _ | with_reducible refine ex_into ?_ _ | with_reducible refine ex_alloc ?_ _ | with_reducible refine ex_drew ?_ | ((with_reducible refine ex_setCell ?_ ?_ _); rotate_left; (first | omega | (simp; done) | (simp; omega))) | exact ex_over)), rfl, hid (by rw [hN.out, take_snoc' hlt]; exact cntW_step' _ _)⟩
        case measure => simp [intOf]; omega
      · obtain rfl : k = xs.length := by omega
        cases hp : decide (0 < N)
        · cases he : (((xs.length : Nat) : Int) == 0)
          · go_wp2
            go_ret2
            exact ⟨(by (try unfold Ov); repeat (first | with_reducible exact ex_over | with_reducible exact over_self _ | with_reducible refine ex_into ?_ _ | with_reducible refine ex_alloc ?_ _ | with_reducible refine ex_drew ?_ | ((with_reducible refine ex_setCell ?_ ?_ _); rotate_left; (first | omega | (simp; done) | (simp; omega))) | exact ex_over)), congrArg Ending.returned (countV_ok Hso.out hN.out (by rw [hp]; cases xs <;> simp_all; try omega))⟩
          · go_wp2
            go_ret2
            exact ⟨(by (try unfold Ov); repeat (first | with_reducible exact ex_over | with_reducible exact over_self _ | with_reducible refine ex_into ?_ _ | with_reducible refine ex_alloc ?_ _ | with_reducible refine ex_drew ?_ | ((with_reducible refine ex_setCell ?_ ?_ _); rotate_left; (first | omega | (simp; done) | (simp; omega))) | exact ex_over)), congrArg Ending.returned (countV_ok Hso.out hN.out (by rw [hp]; cases xs <;> simp_all; try omega))⟩
        · go_wp2
          go_ret2
          exact ⟨(by (try unfold Ov); repeat (first | with_reducible exact ex_over | with_reducible exact over_self _ | with_reducible refine ex_into ?_ _ | with_reducible refine ex_alloc ?_ _ | with_reducible refine ex_drew ?_ | ((with_reducible refine ex_setCell ?_ ?_ _); rotate_left; (first | omega | (simp; done) | (simp; omega))) | exact ex_over)), congrArg Ending.returned (countV_ok Hso.out hN.out (by rw [hp]; rfl))⟩

def turned (x : Sp) : Sp := ⟨if x.t < x.f then x.t else x.f, if x.f < x.t then x.t else x.f⟩
def setS (l : List Sp) : List Sp := l.foldl (fun o x => addS o (turned x)) []
theorem addS_len (l : List Sp) (s : Sp) : (addS l s).length ≤ l.length + 1 := by
  unfold addS
  split
  · suffices h : ∀ (l out : List Sp) (s : Sp), (addGo l s out).length ≤ out.length + l.length + 1 by simpa using h l [] s
    intro l
    induction l with
    | nil => intro out s; simp [addGo]
    | cons x l ih =>
      intro out s
      unfold addGo
      split
      · have := ih (out ++ [x]) s; simp at this ⊢; omega
      · split
        · have := ih (out ++ [s]) x; simp at this ⊢; omega
        · have := ih out (mrg s x); simp at this ⊢; omega
  · simp
theorem addGo_wf : ∀ (l out : List Sp) (s : Sp), (∀ x ∈ l, x.wf) → (∀ x ∈ out, x.wf) → s.wf → ∀ x ∈ addGo l s out, x.wf
  | [], out, s, _, ho, hs, x, hx => by
    simp [addGo] at hx
    rcases hx with hx | rfl
    · exact ho x hx
    · exact hs
  | y :: l, out, s, hl, ho, hs, x, hx => by
    have hy := hl y (by simp)
    have hl' : ∀ x ∈ l, x.wf := fun x hx => hl x (by simp [hx])
    unfold addGo at hx
    split at hx
    · exact addGo_wf l _ s hl' (fun z hz => by simp at hz; rcases hz with hz | rfl; exact ho z hz; exact hy) hs x hx
    · split at hx
      · exact addGo_wf l _ y hl' (fun z hz => by simp at hz; rcases hz with hz | rfl; exact ho z hz; exact hs) hy x hx
      · exact addGo_wf l out _ hl' ho (mrg_wf hs hy) x hx
theorem addS_wf {l : List Sp} {s : Sp} (hl : ∀ x ∈ l, x.wf) (hs : s.wf) : ∀ x ∈ addS l s, x.wf := by
  unfold addS
  split
  · exact addGo_wf l [] s hl (by simp) hs
  · simp
theorem turned_wf {s : Sp} (h : s.wf) : (turned s).wf := by unfold Sp.wf turned at *; simp only; split <;> split <;> omega

set_option maxRecDepth 100000 in
set_option maxHeartbeats 2000000 in
theorem set_any (xs : List Sp) (hwf : ∀ x ∈ xs, x.wf) (a : Option Addr) (cap : Nat) (w : World) (hs : SlS w a cap xs) (hb : xs.length ≤ 10000) :
    Calls Try.prog 37 #[.slice a xs.length cap] w (Gives w fun v w' => OwnS w.heap.size w' v (setS xs)) := by
  have hmax := len_max hs
  go_enter Try.func37, Try.ntmps37
  go_wp2
  go_loopw [3, 4] (fun out i wr => ∃ (k : Nat) (ys : List Sp), k ≤ xs.length ∧ i = .int .i64 k ∧ Ov w wr ∧ OwnS w.heap.size wr out ys ∧ ys.length ≤ k ∧ Hid (∀ x ∈ ys, x.wf) ∧ Hid (ys = setS (xs.take k))) (fun _ i _ => xs.length - (intOf i).toNat)
  case atStart => exact ⟨0, [], Nat.zero_le _, rfl, over_self w, Own.nil _, Nat.le_refl _, hid (by simp), hid rfl⟩
  case round =>
    obtain ⟨k, ys, hk, rfl, ⟨e, rfl⟩, hown, hyl, hyw, hys⟩ := hrel
    by_cases hlt : k < xs.length
    · obtain ⟨b, off, rfl, hb, c0, c1⟩ := hs.at_ hlt
      obtain ⟨ao, co, rfl, hso⟩ := Own.slice Sp.cs_len hown
      obtain ⟨M, hM⟩ : ∃ M, M = turned xs[k] := ⟨_, rfl⟩
      have e1 : (if xs[k].t < xs[k].f then xs[k].t else xs[k].f) = M.f := by rw [hM]; rfl
      have e2 : (if xs[k].f < xs[k].t then xs[k].t else xs[k].f) = M.t := by rw [hM]; rfl
      have HM := hid hM
      have hMw : Hid M.wf := by rw [hM]; exact turned_wf (hwf _ (List.getElem_mem hlt))
      clear hM
      have HA := hid (fun W h => add_any ys hyw.out M hMw.out ao co W h (by omega))
      go_wp2_with fail
      refine wp_region_mix [24] (by kernel_rfl) (by kernel_rfl) ?_
      refine mixL_quiet 24 (by kernel_rfl) ?_
      simp only [List.take_succ_cons, List.take_zero, List.drop_succ_cons, List.drop_zero]
      repeat (go_big_quiet_step (fail))
      refine wpQuiet_nil ?_
      refine mixL_eff rfl ?_
      go_wp2_with (go_at_call 32; refine (HA.out _ (by repeat (first | with_reducible exact hso | with_reducible refine Sl.over ?_ _ | with_reducible refine Sl.alloc ?_ _ | with_reducible refine Sl.drew ?_ | exact hso))).mono ?_; rintro _ _ ⟨⟨e3, rfl⟩, v3, rfl, hown3⟩)
      refine MixQ.mk (by (try unfold Ov); repeat (first | with_reducible exact ex_over | with_reducible exact over_self _ | with_reducible refine ex_into ?_ _ | with_reducible refine ex_alloc ?_ _ | with_reducible refine ex_drew ?_ | ((with_reducible refine ex_setCell ?_ ?_ _); rotate_left; (first | omega | (simp; done) | (simp; omega))) | exact ex_over)) ?_
      refine mixL_quiet 5 (by kernel_rfl) ?_
      simp only [List.take_succ_cons, List.take_zero, List.drop_succ_cons, List.drop_zero]
      repeat (go_big_quiet_step (fail))
      refine wpQuiet_nil ?_
      refine mixL_nil ?_
      go_wp2_with fail
      go_roundw
      case rel => exact ⟨k + 1, _, by omega, by go_num, (by (try unfold Ov); repeat (first | with_reducible exact ex_over | with_reducible exact over_self _ | with_reducible refine ex_into ?_ _ | with_reducible refine ex_alloc ?_ _ | with_reducible refine ex_drew ?_ | ((with_reducible refine ex_setCell ?_ ?_ _); rotate_left; (first | omega | (simp; done) | (simp; omega))) | exact ex_over)), Own.mono hown3 (by simp), (by have := addS_len ys M; omega), hid (addS_wf hyw.out hMw.out), hid (by rw [take_snoc' hlt, setS, foldl_snoc', ← setS, ← hys.out, ← HM.out])⟩
      case measure => simp [intOf]; omega
    · go_wp2_with fail
      go_ret
      have h := hys.out
      rw [List.take_of_length_le (by omega)] at h
      exact ⟨(by (try unfold Ov); repeat (first | with_reducible exact ex_over | with_reducible exact over_self _ | with_reducible refine ex_into ?_ _ | with_reducible refine ex_alloc ?_ _ | with_reducible refine ex_drew ?_ | ((with_reducible refine ex_setCell ?_ ?_ _); rotate_left; (first | omega | (simp; done) | (simp; omega))) | exact ex_over)), _, rfl, by rw [← h]; exact hown⟩
end Go.Proofs.Ytbkekpfancbemaa
