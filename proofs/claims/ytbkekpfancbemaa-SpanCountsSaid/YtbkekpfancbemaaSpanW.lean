/- Walks: span.next, apart, Sound. -/
import Derived.Test.YtbkekpfancbemaaRows
import Derived.Test.YtbkekpfancbemaaSpanP
namespace Go.Proofs.Ytbkekpfancbemaa
set_option linter.unusedVariables false
set_option linter.unusedSimpArgs false
open Go.RowKit

set_option maxHeartbeats 400000 in
theorem next_any (t : Int) (w : World) :
    Calls Try.prog 66 #[.int .i64 t] w fun e w' => e = .returned (.tuple #[.int .i64 (wrap64 (t+1)), .bool (decide (t < 9223372036854775807))]) ∧ w = w' := by
    go_enter Try.func66, Try.ntmps66
    go_wp2
    go_ret2
    exact ⟨rfl, rfl⟩

set_option maxHeartbeats 400000 in
theorem apart_any (a b : Sp) (ha : a.wf) (hb : b.wf) (w : World) :
    Calls Try.prog 55 #[a.v, b.v] w (Ret w (.bool (apartB a b))) := by
  obtain ⟨af, a⟩ := a
  obtain ⟨b, bt⟩ := b
  have ha := ha; have hb := hb
  unfold Sp.wf at ha hb
  unfold Sp.v
  by_cases h : a < 9223372036854775807
  · go_enter Try.func55, Try.ntmps55
    go_wp2_with (go_at_call 66; refine (next_any _ _).mono ?_; rintro e w' ⟨rfl, rfl⟩)
    go_ret
    have h2 : wrap64 (a + 1) = a + 1 := IntWalk.wrap64_in _ ⟨by omega, by omega⟩
    exact ⟨ex_alloc (ex_alloc (over_self w) _) _, ret_bool (by rw [h2]; rfl)⟩
  · go_enter Try.func55, Try.ntmps55
    go_wp2_with (go_at_call 66; refine (next_any _ _).mono ?_; rintro e w' ⟨rfl, rfl⟩)
    go_ret
    exact ⟨ex_alloc (ex_alloc (over_self w) _) _, ret_bool (show false = decide (a + 1 < b) from (decide_eq_false (by omega)).symm)⟩

set_option maxHeartbeats 1000000 in
theorem sound_any (xs : List Sp) (hwf : ∀ x ∈ xs, x.wf) (a : Option Addr) (cap : Nat) (w : World) (hs : SlS w a cap xs) :
    Calls Try.prog 40 #[.slice a xs.length cap] w (Ret w (.bool (soundB xs))) := by
  have hmax : xs.length ≤ 9223372036854775807 := by have := hs.le; have := hs.max; unfold maxLen at *; omega
  go_enter Try.func40, Try.ntmps40
  go_wp2
  go_loopw [7] (fun i wr => ∃ (k : Nat), k ≤ xs.length ∧ i = .int .i64 k ∧ Ov w wr ∧ Hid (soundTo xs k)) (fun i _ => xs.length - (intOf i).toNat)
  case atStart =>
    exact ⟨0, Nat.zero_le _, rfl, over_self w, hid (soundTo_zero xs)⟩
  case round =>
    obtain ⟨k, hk, rfl, ⟨e, rfl⟩, hto⟩ := hrel
    by_cases hlt : k < xs.length
    · obtain ⟨b, off, rfl, hb, c0, c1⟩ := hs.at_ hlt
      cases hft : decide (xs[k].t < xs[k].f)
      rotate_left
      · have Hft := hid hft
        go_wp2
        refine wp_region_over (by kernel_rfl) (by kernel_rfl) ?_
        repeat (go_big_quiet_step (fail))
        refine wpQuiet_nil ?_
        intro _ hw'
        obtain ⟨nq, rfl⟩ := hw'
        go_wp2
        go_ret
        exact ⟨(by (try unfold Ov); repeat (first | with_reducible exact ex_over | with_reducible exact over_self _ | with_reducible refine ex_into ?_ _ | with_reducible refine ex_alloc ?_ _ | with_reducible refine ex_drew ?_ | ((with_reducible refine ex_setCell ?_ ?_ _); rotate_left; (first | omega | (simp; done) | (simp; omega))) | exact ex_over)), ret_bool (soundB_bad1 hlt Hft.out).symm⟩
      · have Hft := hid hft
        by_cases hk0 : k = 0
        · have h0 : decide (0 < k) = false := by simp; omega
          clear hk0
          go_wp2
          refine wp_region_over (by kernel_rfl) (by kernel_rfl) ?_
          repeat (go_big_quiet_step (fail))
          refine wpQuiet_nil ?_
          intro _ hw'
          obtain ⟨nq, rfl⟩ := hw'
          go_wp2
          go_roundw
          case rel =>
            exact ⟨k + 1, by omega, by go_num, (by (try unfold Ov); repeat (first | with_reducible exact ex_over | with_reducible exact over_self _ | with_reducible refine ex_into ?_ _ | with_reducible refine ex_alloc ?_ _ | with_reducible refine ex_drew ?_ | ((with_reducible refine ex_setCell ?_ ?_ _); rotate_left; (first | omega | (simp; done) | (simp; omega))) | exact ex_over)), hid (soundTo_succ hto.out hlt Hft.out (fun h => absurd h (of_decide_eq_false h0)))⟩
          case measure => simp [intOf]; omega
        · have h0 : decide (0 < k) = true := by simp; omega
          have hk1 : 1 ≤ k := by omega
          obtain ⟨b', off', e0, _, c2, c3⟩ := hs.at_ (show k - 1 < xs.length by omega)
          injection e0 with e0; injection e0 with e0 e1; subst e0 e1
          clear hk0
          cases hap : apartB xs[k-1] xs[k]
          · have HA := hid (fun W => hap ▸ apart_any _ _ (hwf _ (List.getElem_mem (show k - 1 < xs.length by omega))) (hwf _ (List.getElem_mem hlt)) W)
            have Hap := hid hap
            clear hap
            go_wp2
            refine wp_region_over (by kernel_rfl) (by kernel_rfl) ?_
            repeat (go_big_quiet_step ((go_at_call 55; exact quiet_over (HA.out _))))
            refine wpQuiet_nil ?_
            intro _ hw'
            obtain ⟨nq, rfl⟩ := hw'
            go_wp2
            go_ret
            exact ⟨(by (try unfold Ov); repeat (first | with_reducible exact ex_over | with_reducible exact over_self _ | with_reducible refine ex_into ?_ _ | with_reducible refine ex_alloc ?_ _ | with_reducible refine ex_drew ?_ | ((with_reducible refine ex_setCell ?_ ?_ _); rotate_left; (first | omega | (simp; done) | (simp; omega))) | exact ex_over)), ret_bool (soundB_bad2 hlt hk1 Hap.out).symm⟩
          · have HA := hid (fun W => hap ▸ apart_any _ _ (hwf _ (List.getElem_mem (show k - 1 < xs.length by omega))) (hwf _ (List.getElem_mem hlt)) W)
            have Hap := hid hap
            clear hap
            go_wp2
            refine wp_region_over (by kernel_rfl) (by kernel_rfl) ?_
            repeat (go_big_quiet_step ((go_at_call 55; exact quiet_over (HA.out _))))
            refine wpQuiet_nil ?_
            intro _ hw'
            obtain ⟨nq, rfl⟩ := hw'
            go_wp2
            go_roundw
            case rel =>
              exact ⟨k + 1, by omega, by go_num, (by (try unfold Ov); repeat (first | with_reducible exact ex_over | with_reducible exact over_self _ | with_reducible refine ex_into ?_ _ | with_reducible refine ex_alloc ?_ _ | with_reducible refine ex_drew ?_ | ((with_reducible refine ex_setCell ?_ ?_ _); rotate_left; (first | omega | (simp; done) | (simp; omega))) | exact ex_over)), hid (soundTo_succ hto.out hlt Hft.out (fun _ => Hap.out))⟩
            case measure => simp [intOf]; omega
    · go_wp2
      go_ret
      exact ⟨ex_over, ret_bool (soundTo_all hto.out hlt).symm⟩
end Go.Proofs.Ytbkekpfancbemaa
