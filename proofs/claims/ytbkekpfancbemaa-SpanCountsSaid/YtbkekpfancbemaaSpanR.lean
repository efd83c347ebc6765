/- Walks: the reading calls of the reference (Sound, Has, Same, Count) and span.Count. -/
import Derived.Test.YtbkekpfancbemaaSpanW
namespace Go.Proofs.Ytbkekpfancbemaa
set_option linter.unusedVariables false
set_option linter.unusedSimpArgs false
open Go.RowKit

theorem apart_ref {a b : Sp} (ha : a.wf) (hb : b.wf) (h1 : decide (b.f ≤ a.t) = false) (h2 : (b.f == wrap64 (a.t + 1)) = false) : apartB a b = true := by
  have h1 := of_decide_eq_false h1
  unfold Sp.wf at ha hb
  rw [IntWalk.wrap64_in _ ⟨by omega, by omega⟩] at h2
  simp at h2
  unfold apartB; simp; omega
theorem apart_ref1 {a b : Sp} (h1 : decide (b.f ≤ a.t) = true) : apartB a b = false := by
  have h1 := of_decide_eq_true h1
  unfold apartB; simp; omega
theorem apart_ref2 {a b : Sp} (ha : a.wf) (hb : b.wf) (h1 : decide (b.f ≤ a.t) = false) (h2 : (b.f == wrap64 (a.t + 1)) = true) : apartB a b = false := by
  have h1 := of_decide_eq_false h1
  unfold Sp.wf at ha hb
  rw [IntWalk.wrap64_in _ ⟨by omega, by omega⟩] at h2
  simp at h2
  unfold apartB; simp; omega

set_option maxHeartbeats 2000000 in
theorem rsound_any (xs : List Sp) (hwf : ∀ x ∈ xs, x.wf) (a : Option Addr) (cap : Nat) (w : World) (hs : SlS w a cap xs) :
    Calls Try.prog 41 #[.slice a xs.length cap] w (Ret w (.bool (soundB xs))) := by
  have hmax := len_max hs
  go_enter Try.func41, Try.ntmps41
  go_wp2
  go_loopw [3] (fun i wr => ∃ (k : Nat), k ≤ xs.length ∧ i = .int .i64 k ∧ Ov w wr ∧ Hid (soundTo xs k)) (fun i _ => xs.length - (intOf i).toNat)
  case atStart =>
    exact ⟨0, Nat.zero_le _, rfl, over_self w, hid (soundTo_zero xs)⟩
  case round =>
    obtain ⟨k, hk, rfl, ⟨e, rfl⟩, hto⟩ := hrel
    by_cases hlt : k < xs.length
    · obtain ⟨b, off, rfl, hb, c0, c1⟩ := hs.at_ hlt
      cases hft : decide (xs[k].t < xs[k].f)
      rotate_left
      · have Hft := hid hft
        go_wp2
        refine wp_region_over (by kernel_rfl) (by kernel_rfl) ?_
        repeat (go_big_quiet_step (fail))
        refine wpQuiet_nil ?_
        intro _ hw'
        obtain ⟨nq, rfl⟩ := hw'
        go_wp2
        go_ret
        exact ⟨(by (try unfold Ov); repeat (first | with_reducible exact ex_over | with_reducible exact over_self _ | with_reducible refine ex_into ?_ _ | with_reducible refine ex_alloc ?_ _ | with_reducible refine ex_drew ?_ | ((with_reducible refine ex_setCell ?_ ?_ _); rotate_left; (first | omega | (simp; done) | (simp; omega))) | exact ex_over)), ret_bool (soundB_bad1 hlt Hft.out).symm⟩
      · have Hft := hid hft
        by_cases hk0 : k = 0
        · have h0 : decide (0 < k) = false := by simp; omega
          clear hk0
          go_wp2
          refine wp_region_over (by kernel_rfl) (by kernel_rfl) ?_
          repeat (go_big_quiet_step (fail))
          refine wpQuiet_nil ?_
          intro _ hw'
          obtain ⟨nq, rfl⟩ := hw'
          go_wp2
          refine wp_region_over (by kernel_rfl) (by kernel_rfl) ?_
          repeat (go_big_quiet_step (fail))
          refine wpQuiet_nil ?_
          intro _ hw'
          obtain ⟨nq, rfl⟩ := hw'
          go_wp2
          go_roundw
          case rel =>
            exact ⟨k + 1, by omega, by go_num, (by (try unfold Ov); repeat (first | with_reducible exact ex_over | with_reducible exact over_self _ | with_reducible refine ex_into ?_ _ | with_reducible refine ex_alloc ?_ _ | with_reducible refine ex_drew ?_ | ((with_reducible refine ex_setCell ?_ ?_ _); rotate_left; (first | omega | (simp; done) | (simp; omega))) | exact ex_over)), hid (soundTo_succ hto.out hlt Hft.out (fun h => absurd h (of_decide_eq_false h0)))⟩
          case measure => simp [intOf]; omega
        · have h0 : decide (0 < k) = true := by simp; omega
          have hk1 : 1 ≤ k := by omega
          obtain ⟨b', off', e0, _, c2, c3⟩ := hs.at_ (show k - 1 < xs.length by omega)
          injection e0 with e0; injection e0 with e0 e1; subst e0 e1
          clear hk0
          have w0 := hid (hwf _ (List.getElem_mem (show k - 1 < xs.length by omega)))
          have w1 := hid (hwf _ (List.getElem_mem hlt))
          cases h1 : decide (xs[k].f ≤ xs[k-1].t)
          · cases h2 : (xs[k].f == wrap64 (xs[k-1].t + 1))
            · have Hap := hid (apart_ref w0.out w1.out h1 h2)
              go_wp2
              refine wp_region_over (by kernel_rfl) (by kernel_rfl) ?_
              repeat (go_big_quiet_step (fail))
              refine wpQuiet_nil ?_
              intro _ hw'
              obtain ⟨nq, rfl⟩ := hw'
              go_wp2
              refine wp_region_over (by kernel_rfl) (by kernel_rfl) ?_
              repeat (go_big_quiet_step (fail))
              refine wpQuiet_nil ?_
              intro _ hw'
              obtain ⟨nq, rfl⟩ := hw'
              go_wp2
              go_roundw
              case rel =>
                exact ⟨k + 1, by omega, by go_num, (by (try unfold Ov); repeat (first | with_reducible exact ex_over | with_reducible exact over_self _ | with_reducible refine ex_into ?_ _ | with_reducible refine ex_alloc ?_ _ | with_reducible refine ex_drew ?_ | ((with_reducible refine ex_setCell ?_ ?_ _); rotate_left; (first | omega | (simp; done) | (simp; omega))) | exact ex_over)), hid (soundTo_succ hto.out hlt Hft.out (fun _ => Hap.out))⟩
              case measure => simp [intOf]; omega
            · have Hap := hid (apart_ref2 w0.out w1.out h1 h2)
              go_wp2
              refine wp_region_over (by kernel_rfl) (by kernel_rfl) ?_
              repeat (go_big_quiet_step (fail))
              refine wpQuiet_nil ?_
              intro _ hw'
              obtain ⟨nq, rfl⟩ := hw'
              go_wp2
              refine wp_region_over (by kernel_rfl) (by kernel_rfl) ?_
              repeat (go_big_quiet_step (fail))
              refine wpQuiet_nil ?_
              intro _ hw'
              obtain ⟨nq, rfl⟩ := hw'
              go_wp2
              go_ret
              exact ⟨(by (try unfold Ov); repeat (first | with_reducible exact ex_over | with_reducible exact over_self _ | with_reducible refine ex_into ?_ _ | with_reducible refine ex_alloc ?_ _ | with_reducible refine ex_drew ?_ | ((with_reducible refine ex_setCell ?_ ?_ _); rotate_left; (first | omega | (simp; done) | (simp; omega))) | exact ex_over)), ret_bool (soundB_bad2 hlt hk1 Hap.out).symm⟩
          · have Hap := hid (apart_ref1 h1)
            go_wp2
            refine wp_region_over (by kernel_rfl) (by kernel_rfl) ?_
            repeat (go_big_quiet_step (fail))
            refine wpQuiet_nil ?_
            intro _ hw'
            obtain ⟨nq, rfl⟩ := hw'
            go_wp2
            refine wp_region_over (by kernel_rfl) (by kernel_rfl) ?_
            repeat (go_big_quiet_step (fail))
            refine wpQuiet_nil ?_
            intro _ hw'
            obtain ⟨nq, rfl⟩ := hw'
            go_wp2
            go_ret
            exact ⟨(by (try unfold Ov); repeat (first | with_reducible exact ex_over | with_reducible exact over_self _ | with_reducible refine ex_into ?_ _ | with_reducible refine ex_alloc ?_ _ | with_reducible refine ex_drew ?_ | ((with_reducible refine ex_setCell ?_ ?_ _); rotate_left; (first | omega | (simp; done) | (simp; omega))) | exact ex_over)), ret_bool (soundB_bad2 hlt hk1 Hap.out).symm⟩
    · go_wp2
      go_ret
      exact ⟨ex_over, ret_bool (soundTo_all hto.out hlt).symm⟩

theorem neq_span (W : World) (x y : Sp) : (binOp .neq 53 (.agg #[.int .i64 x.f, .int .i64 x.t]) (.agg #[.int .i64 y.f, .int .i64 y.t])).run Try.prog W = .ok (.bool (decide (x ≠ y))) W := by
  obtain ⟨xf, xt⟩ := x
  obtain ⟨yf, yt⟩ := y
  by_cases h1 : xf = yf
  · by_cases h2 : xt = yt
    · simp [go_sem, h1, h2]
    · simp [go_sem, h1, h2]
  · simp [go_sem, h1]

set_option maxHeartbeats 1000000 in
theorem same_any (xs ys : List Sp) (a b : Option Addr) (cap cap' : Nat) (w : World) (hs : SlS w a cap xs) (hs' : SlS w b cap' ys) :
    Calls Try.prog 36 #[.slice a xs.length cap, .slice b ys.length cap'] w (Ret w (.bool (decide (xs = ys)))) := by
  have hmax := len_max hs
  have hmax' := len_max hs'
  cases hl : (((xs.length : Nat) : Int) != ((ys.length : Nat) : Int))
  · have hll : xs.length = ys.length := by simp at hl; omega
    have Hl := hid hll
    clear hll
    go_enter Try.func36, Try.ntmps36
    go_wp2
    go_loopw [5] (fun i wr => ∃ (k : Nat), k ≤ xs.length ∧ i = .int .i64 k ∧ Ov w wr ∧ Hid (xs.take k = ys.take k)) (fun i _ => xs.length - (intOf i).toNat)
    case atStart => exact ⟨0, Nat.zero_le _, rfl, over_self w, hid rfl⟩
    case round =>
      obtain ⟨k, hk, rfl, ⟨e, rfl⟩, hto⟩ := hrel
      by_cases hlt : k < xs.length
      · obtain ⟨b, off, rfl, hb, c0, c1⟩ := hs.at_ hlt
        have hlt' : k < ys.length := by have := Hl.out; omega
        obtain ⟨b', off', rfl, hb', c0', c1'⟩ := hs'.at_ hlt'
        have q := fun W => neq_span W xs[k] ys[k]
        by_cases he : xs[k] = ys[k]
        · rw [show decide (xs[k] ≠ ys[k]) = false by simp [he]] at q
          have He := hid he
          clear he
          go_wp2
          refine wp_region_over (by kernel_rfl) (by kernel_rfl) ?_
          repeat (go_big_quiet_step (fail))
          refine wpQuiet_nil ?_
          intro _ hw'
          obtain ⟨nq, rfl⟩ := hw'
          go_wp2
          go_roundw
          case rel => exact ⟨k + 1, by omega, by go_num, (by (try unfold Ov); repeat (first | with_reducible exact ex_over | with_reducible exact over_self _ | with_reducible refine ex_into ?_ _ | with_reducible refine ex_alloc ?_ _ | with_reducible refine ex_drew ?_ | ((with_reducible refine ex_setCell ?_ ?_ _); rotate_left; (first | omega | (simp; done) | (simp; omega))) | exact ex_over)), hid (same_step hto.out hlt hlt' He.out)⟩
          case measure => simp [intOf]; omega
        · rw [show decide (xs[k] ≠ ys[k]) = true by simp [he]] at q
          have He := hid he
          clear he
          go_wp2
          refine wp_region_over (by kernel_rfl) (by kernel_rfl) ?_
          repeat (go_big_quiet_step (fail))
          refine wpQuiet_nil ?_
          intro _ hw'
          obtain ⟨nq, rfl⟩ := hw'
          go_wp2
          go_ret
          exact ⟨(by (try unfold Ov); repeat (first | with_reducible exact ex_over | with_reducible exact over_self _ | with_reducible refine ex_into ?_ _ | with_reducible refine ex_alloc ?_ _ | with_reducible refine ex_drew ?_ | ((with_reducible refine ex_setCell ?_ ?_ _); rotate_left; (first | omega | (simp; done) | (simp; omega))) | exact ex_over)), ret_bool (same_no hlt hlt' He.out).symm⟩
      · go_wp2
        go_ret
        exact ⟨(by (try unfold Ov); repeat (first | with_reducible exact ex_over | with_reducible exact over_self _ | with_reducible refine ex_into ?_ _ | with_reducible refine ex_alloc ?_ _ | with_reducible refine ex_drew ?_ | ((with_reducible refine ex_setCell ?_ ?_ _); rotate_left; (first | omega | (simp; done) | (simp; omega))) | exact ex_over)), ret_bool (same_end Hl.out hto.out hlt).symm⟩
  · have Hl := hid hl
    go_enter Try.func36, Try.ntmps36
    go_wp2
    go_ret
    exact ⟨(by (try unfold Ov); repeat (first | with_reducible exact ex_over | with_reducible exact over_self _ | with_reducible refine ex_into ?_ _ | with_reducible refine ex_alloc ?_ _ | with_reducible refine ex_drew ?_ | ((with_reducible refine ex_setCell ?_ ?_ _); rotate_left; (first | omega | (simp; done) | (simp; omega))) | exact ex_over)), ret_bool (same_len Hl.out).symm⟩

set_option maxHeartbeats 1000000 in
theorem count_any (xs : List Sp) (hwf : ∀ x ∈ xs, x.wf) (a : Option Addr) (cap : Nat) (w : World) (hs : SlS w a cap xs) :
    Calls Try.prog 38 #[.slice a xs.length cap] w (Ret w (countV xs)) := by
  have hmax := len_max hs
  cases hso : soundB xs
  · have HS := hid (fun W h => hso ▸ sound_any xs hwf a cap W h)
    have Hso := hid hso
    clear hso
    go_enter Try.func38, Try.ntmps38
    go_wp2_with (go_at_call 40; refine (HS.out _ hs).mono ?_; rintro _ _ ⟨⟨e, rfl⟩, rfl⟩)
    go_ret2
    exact ⟨(by (try unfold Ov); repeat (first | with_reducible exact ex_over | with_reducible exact over_self _ | with_reducible refine ex_into ?_ _ | with_reducible refine ex_alloc ?_ _ | with_reducible refine ex_drew ?_ | ((with_reducible refine ex_setCell ?_ ?_ _); rotate_left; (first | omega | (simp; done) | (simp; omega))) | exact ex_over)), congrArg Ending.returned (countV_no Hso.out)⟩
  · have HS := hid (fun W h => hso ▸ sound_any xs hwf a cap W h)
    have Hso := hid hso
    clear hso
    go_enter Try.func38, Try.ntmps38
    go_wp2_with (go_at_call 40; refine (HS.out _ hs).mono ?_; rintro _ _ ⟨⟨e, rfl⟩, rfl⟩)
    go_loopw [4, 12] (fun n i wr => ∃ (k : Nat) (N : Int), k ≤ xs.length ∧ i = .int .i64 k ∧ Ov w wr ∧ n = .int .u64 N ∧ Hid (N = cntW (xs.take k))) (fun _ i _ => xs.length - (intOf i).toNat)
    case atStart => exact ⟨0, 0, Nat.zero_le _, rfl, (by (try unfold Ov); repeat (first | with_reducible exact ex_over | with_reducible exact over_self _ | with_reducible refine ex_into ?_ _ | with_reducible refine ex_alloc ?_ _ | with_reducible refine ex_drew ?_ | ((with_reducible refine ex_setCell ?_ ?_ _); rotate_left; (first | omega | (simp; done) | (simp; omega))) | exact ex_over)), rfl, hid cntW_nil.symm⟩
    case round =>
      obtain ⟨k, N, hk, rfl, ⟨e, rfl⟩, rfl, hN⟩ := hrel
      by_cases hlt : k < xs.length
      · obtain ⟨b, off, rfl, hb, c0, c1⟩ := hs.at_ hlt
        go_wp2
        go_roundw
        case rel => exact ⟨k + 1, _, by omega, by go_num, (by (try unfold Ov); repeat (first | with_reducible exact ex_over | with_reducible exact over_self _ | with_reducible refine ex_into ?_ _ | with_reducible refine ex_alloc ?_ _ | with_reducible refine ex_drew ?_ | ((with_reducible refine ex_setCell ?_ ?_ _); rotate_left; (first | omega | (simp; done) | (simp; omega))) | exact ex_over)), rfl, hid (by rw [hN.out, take_snoc' hlt]; exact cntW_step _ _)⟩
        case measure => simp [intOf]; omega
      · obtain rfl : k = xs.length := by omega
        cases hp : decide (0 < N)
        · cases he : (((xs.length : Nat) : Int) == 0)
          · go_wp2
            go_ret2
            exact ⟨(by (try unfold Ov); repeat (first | with_reducible exact ex_over | with_reducible exact over_self _ | with_reducible refine ex_into ?_ _ | with_reducible refine ex_alloc ?_ _ | with_reducible refine ex_drew ?_ | ((with_reducible refine ex_setCell ?_ ?_ _); rotate_left; (first | omega | (simp; done) | (simp; omega))) | exact ex_over)), congrArg Ending.returned (countV_ok Hso.out hN.out (by rw [hp]; cases xs <;> simp_all; try omega))⟩
          · go_wp2
            go_ret2
            exact ⟨(by (try unfold Ov); repeat (first | with_reducible exact ex_over | with_reducible exact over_self _ | with_reducible refine ex_into ?_ _ | with_reducible refine ex_alloc ?_ _ | with_reducible refine ex_drew ?_ | ((with_reducible refine ex_setCell ?_ ?_ _); rotate_left; (first | omega | (simp; done) | (simp; omega))) | exact ex_over)), congrArg Ending.returned (countV_ok Hso.out hN.out (by rw [hp]; cases xs <;> simp_all; try omega))⟩
        · go_wp2
          go_ret2
          exact ⟨(by (try unfold Ov); repeat (first | with_reducible exact ex_over | with_reducible exact over_self _ | with_reducible refine ex_into ?_ _ | with_reducible refine ex_alloc ?_ _ | with_reducible refine ex_drew ?_ | ((with_reducible refine ex_setCell ?_ ?_ _); rotate_left; (first | omega | (simp; done) | (simp; omega))) | exact ex_over)), congrArg Ending.returned (countV_ok Hso.out hN.out (by rw [hp]; rfl))⟩

end Go.Proofs.Ytbkekpfancbemaa
