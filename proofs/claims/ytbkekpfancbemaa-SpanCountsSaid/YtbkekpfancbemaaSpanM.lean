/- Walks: Has, Meet (both), draymanlaw23.lent. -/
import Derived.Test.YtbkekpfancbemaaSpanD
namespace Go.Proofs.Ytbkekpfancbemaa
set_option linter.unusedVariables false
set_option linter.unusedSimpArgs false
open Go.RowKit

set_option maxHeartbeats 400000 in
theorem lent_any (xs : List Sp) (a : Option Addr) (cap : Nat) (w : World) (hs : SlS w a cap xs) (hb : xs.length ≤ 1000000) :
    Calls Try.prog 31 #[.slice a xs.length cap] w (Gives w fun v w' => OwnS w.heap.size w' v xs) := by
  go_enter Try.func31, Try.ntmps31
  go_wp2_with (at_builtin; refine wpList_append span_elem Sp.cs_len Sp.cs_one rfl (.tmp 4) (.tmp 5) rfl (B := w) (w1 := w) (base := w.heap.size) (ys := []) (xs := xs) (Own.nil _) rfl rfl (by (try unfold Ov); repeat (first | with_reducible exact ex_over | with_reducible exact over_self _ | with_reducible refine ex_into ?_ _ | with_reducible refine ex_alloc ?_ _ | with_reducible refine ex_drew ?_ | ((with_reducible refine ex_setCell ?_ ?_ _); rotate_left; (first | omega | (simp; done) | (simp; omega))) | exact ex_over)) (by (try unfold Ov); repeat (first | with_reducible exact ex_over | with_reducible exact over_self _ | with_reducible refine ex_into ?_ _ | with_reducible refine ex_alloc ?_ _ | with_reducible refine ex_drew ?_ | ((with_reducible refine ex_setCell ?_ ?_ _); rotate_left; (first | omega | (simp; done) | (simp; omega))) | exact ex_over)) (by simp) (by simp) hs (by unfold maxLen; simp; omega) (by simp; omega) ?_; intro v' x' hown' _ _)
  go_ret
  exact ⟨ex_over, _, rfl, hown'⟩

set_option maxHeartbeats 400000 in
theorem has1_any (x : Sp) (t : Int) (b o : Nat) (w : World) (hc : w.cell? ⟨b, o, none⟩ = some (.int .i64 t)) (hb : b < w.heap.size) :
    Calls Try.prog 60 #[x.v, .pointer (some ⟨b, o, none⟩)] w (Ret w (.bool (decide (x.f ≤ t) && decide (t ≤ x.t)))) := by
  unfold Sp.v
  cases h1 : decide (x.f ≤ t)
  · go_enter Try.func60, Try.ntmps60
    go_wp2
    go_ret
    exact ⟨(by (try unfold Ov); repeat (first | with_reducible exact ex_over | with_reducible exact over_self _ | with_reducible refine ex_into ?_ _ | with_reducible refine ex_alloc ?_ _ | with_reducible refine ex_drew ?_ | ((with_reducible refine ex_setCell ?_ ?_ _); rotate_left; (first | omega | (simp; done) | (simp; omega))) | exact ex_over)), rfl⟩
  · go_enter Try.func60, Try.ntmps60
    go_wp2
    go_ret
    exact ⟨(by (try unfold Ov); repeat (first | with_reducible exact ex_over | with_reducible exact over_self _ | with_reducible refine ex_into ?_ _ | with_reducible refine ex_alloc ?_ _ | with_reducible refine ex_drew ?_ | ((with_reducible refine ex_setCell ?_ ?_ _); rotate_left; (first | omega | (simp; done) | (simp; omega))) | exact ex_over)), rfl⟩

set_option maxHeartbeats 1000000 in
theorem hasIdx_any (xs : List Sp) (t : Int) (b o : Nat) (a : Option Addr) (cap : Nat) (w : World) (hs : SlS w a cap xs) (hc : w.cell? ⟨b, o, none⟩ = some (.int .i64 t)) (hbl : b < w.heap.size) :
    Calls Try.prog 71 #[.slice a xs.length cap, .func (.func 60) #[] #[.pointer (some ⟨b, o, none⟩)]] w (Gives w fun v _ => ∃ i : Int, v = .int .i64 i ∧ decide (0 ≤ i) = hasS xs t) := by
  have hmax := len_max hs
  go_enter Try.func71, Try.ntmps71
  go_wp2
  go_loopw [8] (fun i wr => ∃ (k : Nat), k ≤ xs.length ∧ i = .int .i64 k ∧ Ov w wr ∧ Hid (hasS (xs.take k) t = false)) (fun i _ => xs.length - (intOf i).toNat)
  case atStart => exact ⟨0, Nat.zero_le _, rfl, over_self w, hid rfl⟩
  case round =>
    obtain ⟨k, hk, rfl, ⟨e, rfl⟩, hto⟩ := hrel
    by_cases hlt : k < xs.length
    · obtain ⟨b', off, rfl, hb, c0, c1⟩ := hs.at_ hlt
      have HA := fun W h1 h2 => has1_any xs[k] t b o W h1 h2
      cases hv : (decide (xs[k].f ≤ t) && decide (t ≤ xs[k].t))
      · rw [hv] at HA
        have HB := hid HA
        have Hv := hid hv
        clear HA hv
        go_wp2_with (go_at_call 60; refine (HB.out _ (by rw [cell_over _ _ _ _ hbl]; exact hc) (by simp; omega)).mono ?_; rintro _ _ ⟨⟨e2, rfl⟩, rfl⟩)
        go_roundw
        case rel => exact ⟨k + 1, by omega, by go_num, (by (try unfold Ov); repeat (first | with_reducible exact ex_over | with_reducible exact over_self _ | with_reducible refine ex_into ?_ _ | with_reducible refine ex_alloc ?_ _ | with_reducible refine ex_drew ?_ | ((with_reducible refine ex_setCell ?_ ?_ _); rotate_left; (first | omega | (simp; done) | (simp; omega))) | exact ex_over)), hid (hasS_step hto.out hlt Hv.out)⟩
        case measure => simp [intOf]; omega
      · rw [hv] at HA
        have HB := hid HA
        have Hv := hid hv
        clear HA hv
        go_wp2_with (go_at_call 60; refine (HB.out _ (by rw [cell_over _ _ _ _ hbl]; exact hc) (by simp; omega)).mono ?_; rintro _ _ ⟨⟨e2, rfl⟩, rfl⟩)
        go_ret
        refine ⟨(by (try unfold Ov); repeat (first | with_reducible exact ex_over | with_reducible exact over_self _ | with_reducible refine ex_into ?_ _ | with_reducible refine ex_alloc ?_ _ | with_reducible refine ex_drew ?_ | ((with_reducible refine ex_setCell ?_ ?_ _); rotate_left; (first | omega | (simp; done) | (simp; omega))) | exact ex_over)), _, rfl, _, rfl, ?_⟩
        have h := Hv.out
        rw [Bool.and_eq_true] at h
        rw [hasS_hit hlt h.1 h.2]
        simp
    · go_wp2_with fail
      go_ret
      refine ⟨(by (try unfold Ov); repeat (first | with_reducible exact ex_over | with_reducible exact over_self _ | with_reducible refine ex_into ?_ _ | with_reducible refine ex_alloc ?_ _ | with_reducible refine ex_drew ?_ | ((with_reducible refine ex_setCell ?_ ?_ _); rotate_left; (first | omega | (simp; done) | (simp; omega))) | exact ex_over)), _, rfl, _, rfl, ?_⟩
      have h := hto.out
      rw [List.take_of_length_le (by omega)] at h
      rw [h]; rfl

set_option maxHeartbeats 400000 in
theorem hasC_any (xs : List Sp) (t : Int) (b o : Nat) (a : Option Addr) (cap : Nat) (w : World) (hs : SlS w a cap xs) (hc : w.cell? ⟨b, o, none⟩ = some (.int .i64 t)) (hbl : b < w.heap.size) :
    Calls Try.prog 59 #[.slice a xs.length cap, .func (.func 60) #[] #[.pointer (some ⟨b, o, none⟩)]] w (Ret w (.bool (hasS xs t))) := by
  have HA := hid (hasIdx_any xs t b o a cap w hs hc hbl)
  clear hc
  go_enter Try.func59, Try.ntmps59
  go_wp2_with (go_at_call 71; refine HA.out.mono ?_; rintro _ _ ⟨⟨e2, rfl⟩, _, rfl, i, rfl, hi⟩; have Hi := hid hi; clear hi)
  go_ret
  exact ⟨(by (try unfold Ov); repeat (first | with_reducible exact ex_over | with_reducible exact over_self _ | with_reducible refine ex_into ?_ _ | with_reducible refine ex_alloc ?_ _ | with_reducible refine ex_drew ?_ | ((with_reducible refine ex_setCell ?_ ?_ _); rotate_left; (first | omega | (simp; done) | (simp; omega))) | exact ex_over)), ret_bool Hi.out⟩

set_option maxHeartbeats 400000 in
theorem has_any (xs : List Sp) (t : Int) (a : Option Addr) (cap : Nat) (w : World) (hs : SlS w a cap xs) :
    Calls Try.prog 42 #[.slice a xs.length cap, .int .i64 t] w (Ret w (.bool (hasS xs t))) := by
  go_enter Try.func42, Try.ntmps42
  go_wp2_with (go_at_call 59; refine (hasC_any xs t _ _ _ _ _ (hs.alloc _) (World.cell?_alloc_new _ _ _ _) (by simp)).mono ?_; rintro _ _ ⟨⟨e2, rfl⟩, rfl⟩)
  go_ret
  exact ⟨(by (try unfold Ov); repeat (first | with_reducible exact ex_over | with_reducible exact over_self _ | with_reducible refine ex_into ?_ _ | with_reducible refine ex_alloc ?_ _ | with_reducible refine ex_drew ?_ | ((with_reducible refine ex_setCell ?_ ?_ _); rotate_left; (first | omega | (simp; done) | (simp; omega))) | exact ex_over)), rfl⟩

set_option maxHeartbeats 1000000 in
theorem rhas_any (xs : List Sp) (t : Int) (a : Option Addr) (cap : Nat) (w : World) (hs : SlS w a cap xs) :
    Calls Try.prog 43 #[.slice a xs.length cap, .int .i64 t] w (Ret w (.bool (hasS xs t))) := by
  have hmax := len_max hs
  go_enter Try.func43, Try.ntmps43
  go_wp2
  go_loopw [5] (fun i wr => ∃ (k : Nat), k ≤ xs.length ∧ i = .int .i64 k ∧ Ov w wr ∧ Hid (hasS (xs.take k) t = false)) (fun i _ => xs.length - (intOf i).toNat)
  case atStart => exact ⟨0, Nat.zero_le _, rfl, over_self w, hid rfl⟩
  case round =>
    obtain ⟨k, hk, rfl, ⟨e, rfl⟩, hto⟩ := hrel
    by_cases hlt : k < xs.length
    · obtain ⟨b', off, rfl, hb, c0, c1⟩ := hs.at_ hlt
      cases h1 : decide (xs[k].f ≤ t)
      · have H1 := hid h1
        go_wp2
        go_roundw
        case rel => exact ⟨k + 1, by omega, by go_num, (by (try unfold Ov); repeat (first | with_reducible exact ex_over | with_reducible exact over_self _ | with_reducible refine ex_into ?_ _ | with_reducible refine ex_alloc ?_ _ | with_reducible refine ex_drew ?_ | ((with_reducible refine ex_setCell ?_ ?_ _); rotate_left; (first | omega | (simp; done) | (simp; omega))) | exact ex_over)), hid (hasS_step hto.out hlt (by rw [H1.out]; rfl))⟩
        case measure => simp [intOf]; omega
      · cases h2 : decide (t ≤ xs[k].t)
        · have H2 := hid h2
          go_wp2
          go_roundw
          case rel => exact ⟨k + 1, by omega, by go_num, (by (try unfold Ov); repeat (first | with_reducible exact ex_over | with_reducible exact over_self _ | with_reducible refine ex_into ?_ _ | with_reducible refine ex_alloc ?_ _ | with_reducible refine ex_drew ?_ | ((with_reducible refine ex_setCell ?_ ?_ _); rotate_left; (first | omega | (simp; done) | (simp; omega))) | exact ex_over)), hid (hasS_step hto.out hlt (by rw [H2.out]; simp))⟩
          case measure => simp [intOf]; omega
        · have H1 := hid h1
          have H2 := hid h2
          go_wp2
          go_ret
          exact ⟨(by (try unfold Ov); repeat (first | with_reducible exact ex_over | with_reducible exact over_self _ | with_reducible refine ex_into ?_ _ | with_reducible refine ex_alloc ?_ _ | with_reducible refine ex_drew ?_ | ((with_reducible refine ex_setCell ?_ ?_ _); rotate_left; (first | omega | (simp; done) | (simp; omega))) | exact ex_over)), ret_bool (hasS_hit hlt H1.out H2.out).symm⟩
    · go_wp2_with fail
      go_ret
      have h := hto.out
      rw [List.take_of_length_le (by omega)] at h
      exact ⟨(by (try unfold Ov); repeat (first | with_reducible exact ex_over | with_reducible exact over_self _ | with_reducible refine ex_into ?_ _ | with_reducible refine ex_alloc ?_ _ | with_reducible refine ex_drew ?_ | ((with_reducible refine ex_setCell ?_ ?_ _); rotate_left; (first | omega | (simp; done) | (simp; omega))) | exact ex_over)), ret_bool h.symm⟩
end Go.Proofs.Ytbkekpfancbemaa
