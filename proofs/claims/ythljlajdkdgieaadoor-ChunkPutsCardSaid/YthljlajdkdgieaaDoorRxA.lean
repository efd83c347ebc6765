/- Walks: the document's put, written. -/
import Derived.Test.YthljlajdkdgieaaDoorXorW
import Derived.Test.YthljlajdkdgieaaDoorXorQ
import Derived.Test.YthljlajdkdgieaaDoorRef1c
namespace Go.Proofs.YthljlajdkdgieaaDoor
set_option linter.unusedVariables false
set_option linter.unusedSimpArgs false
open Go.RowKit

/-- A list in a call's own memory; all of B stays. -/
def PutL (B : World) (base : Nat) (xs : List Bool) (en : Ending) (w' : World) : Prop := (∃ e, w' = over B e) ∧ ∃ v, en = .returned v ∧ OwnT base w' v xs

theorem OwnT.base_le {base : Nat} {w : World} {v : Value} {xs : List Bool} (h : OwnT base w v xs) (h0 : 0 < xs.length) : base ≤ w.heap.size := by
  obtain ⟨g, cap, _, h2, h3, _⟩ := Own.open_ tcs_len h h0
  omega
theorem and1_64 (x : Nat) (h : x < 18446744073709551616) : bits .and .u64 (x : Int) 1 = ((x % 2 : Nat) : Int) := by
  have := and64 x 1 h (by decide)
  rwa [Nat.and_one_is_mod] at this
theorem bit_pp (v k : Nat) : (v >>> k) % 2 = (v.testBit k).toNat := by
  rw [Nat.testBit_eq_decide_div_mod_eq, Nat.shiftRight_eq_div_pow]
  rcases Nat.mod_two_eq_zero_or_one (v / 2 ^ k) with h | h <;> rw [h] <;> rfl
theorem bit_e (v k : Nat) (hv : v < 18446744073709551616) : bits .and .u64 ((v : Int) / (2 : Int) ^ k) 1 = (((v.testBit k).toNat : Nat) : Int) := by
  rw [cast_shr, and1_64 _ (shr_lt hv), bit_pp]

theorem num_snoc (v k W : Nat) (hk : k + 1 ≤ W) : num (v >>> (k + 1)) (W - (k + 1)) ++ [v.testBit k] = num (v >>> k) (W - k) := by
  have h1 := num_split (v >>> k) (W - (k + 1)) 1
  rw [show W - (k + 1) + 1 = W - k by omega] at h1
  rw [h1, ← Nat.shiftRight_add]
  simp [num, Nat.testBit_shiftRight]

set_option maxRecDepth 100000 in
set_option maxHeartbeats 2000000 in
theorem rput_any {B w : World} {base : Nat} {lv : Value} {xs : List Bool} (h : OwnT base w lv xs) (hB : Ov B w) (hbB : B.heap.size ≤ base) (hbw : base ≤ w.heap.size) (hx : xs.length ≤ 1000000) (v W : Nat) (hv : v < 18446744073709551616) (hW : W ≤ 64) :
    Calls Tryd.prog 75 #[lv, .int .u64 (v : Nat), .int .i64 (W : Nat)] w (PutL B base (xs ++ num v W)) := by
  go_enter Tryd.func75, Tryd.ntmps75
  go_wp2
  go_loopw [0, 7] (fun o i wr => ∃ (k : Nat), k ≤ W ∧ i = .int .i64 ((k : Int) - 1) ∧ Ov B wr ∧ base ≤ wr.heap.size ∧ OwnT base wr o (xs ++ num (v >>> k) (W - k))) (fun _ i _ => (intOf i + 1).toNat)
  case atStart =>
    refine ⟨W, Nat.le_refl _, rfl, hB, hbw, ?_⟩
    rw [Nat.sub_self, num_zero, List.append_nil]; exact h
  case round =>
    obtain ⟨k, hk, rfl, ⟨e, rfl⟩, hbs, hown⟩ := hrel
    by_cases hlt : 0 < k
    · obtain ⟨k, rfl⟩ : ∃ j, k = j + 1 := ⟨k - 1, by omega⟩
      have hE := bit_e v k hv
      have hN := hid (num_snoc v k W hk)
      obtain ⟨Y, hY⟩ : ∃ Y, v.testBit k = Y := ⟨_, rfl⟩
      rw [hY] at hE hN
      have hYl := toNat_le1 Y
      obtain ⟨XS, hXS⟩ : ∃ XS, xs ++ num (v >>> (k + 1)) (W - (k + 1)) = XS := ⟨_, rfl⟩
      rw [hXS] at hown
      have HXS := hid hXS
      have hxl : XS.length ≤ 2000000 := by rw [← hXS, List.length_append, num_length]; omega
      have hbB' := hbB
      clear hY hXS
      go_wp2_with (at_builtin; refine wpList_append byte_elem tcs_len tcs_one rfl (.tmp 14) (.tmp 21) rfl (B := B) (xs := [Y]) hown rfl rfl (by (try unfold Ov); repeat (first | with_reducible exact ex_over | with_reducible exact over_self _ | with_reducible refine ex_undrew ?_ | with_reducible refine ex_into ?_ _ | with_reducible refine ex_alloc ?_ _ | with_reducible refine ex_drew ?_ | ((with_reducible refine ex_setCell ?_ ?_ _); rotate_left; (first | omega | (focus (simp; done)) | (focus (simp; omega)))) | ((with_reducible refine ex_chg ?_ _ ?_); rotate_left; (first | assumption | (exact Hid.out (by assumption)))) | exact ex_over)) (by (try unfold Ov); repeat (first | with_reducible exact ex_over | with_reducible exact over_self _ | with_reducible refine ex_undrew ?_ | with_reducible refine ex_into ?_ _ | with_reducible refine ex_alloc ?_ _ | with_reducible refine ex_drew ?_ | ((with_reducible refine ex_setCell ?_ ?_ _); rotate_left; (first | omega | (focus (simp; done)) | (focus (simp; omega)))) | ((with_reducible refine ex_chg ?_ _ ?_); rotate_left; (first | assumption | (exact Hid.out (by assumption)))) | exact ex_over)) (by first | assumption | (simp; done) | (simp; omega) | omega) (by first | assumption | (simp; done) | (simp; omega) | omega) (by (repeat with_reducible refine Sl.drew ?_); exact Sl.one_new (y := Y) (by simp; try omega)) (by simp only [List.length_append, List.length_singleton, List.length_nil]; unfold maxLen; omega) (by simp only [List.length_append, List.length_singleton, List.length_nil]; omega) ?_; intro v' x' hown' _ _)
      go_roundw
      case rel =>
        have hbl := OwnT.base_le hown' (by simp)
        rw [← HXS.out, List.append_assoc, hN.out] at hown'
        exact ⟨k, by omega, by go_num, (by (try unfold Ov); repeat (first | with_reducible exact ex_over | with_reducible exact over_self _ | with_reducible refine ex_undrew ?_ | with_reducible refine ex_into ?_ _ | with_reducible refine ex_alloc ?_ _ | with_reducible refine ex_drew ?_ | ((with_reducible refine ex_setCell ?_ ?_ _); rotate_left; (first | omega | (focus (simp; done)) | (focus (simp; omega)))) | ((with_reducible refine ex_chg ?_ _ ?_); rotate_left; (first | assumption | (exact Hid.out (by assumption)))) | exact ex_over)), hbl, hown'⟩
      case measure => simp [intOf] <;> omega
    · obtain rfl : k = 0 := by omega
      go_wp2
      go_ret
      rw [Nat.shiftRight_zero, Nat.sub_zero] at hown
      exact ⟨(by (try unfold Ov); repeat (first | with_reducible exact ex_over | with_reducible exact over_self _ | with_reducible refine ex_undrew ?_ | with_reducible refine ex_into ?_ _ | with_reducible refine ex_alloc ?_ _ | with_reducible refine ex_drew ?_ | ((with_reducible refine ex_setCell ?_ ?_ _); rotate_left; (first | omega | (focus (simp; done)) | (focus (simp; omega)))) | ((with_reducible refine ex_chg ?_ _ ?_); rotate_left; (first | assumption | (exact Hid.out (by assumption)))) | exact ex_over)), _, rfl, hown⟩

theorem rput_i {B w : World} {base : Nat} {lv : Value} {xs : List Bool} (h : OwnT base w lv xs) (hB : Ov B w) (hbB : B.heap.size ≤ base) (hbw : base ≤ w.heap.size) (hx : xs.length ≤ 1000000) (v W : Nat) (hv : v < 18446744073709551616) (hW : W ≤ 64) (vi Wi : Int) (hvi : vi = v) (hWi : Wi = W) :
    Calls Tryd.prog 75 #[lv, .int .u64 vi, .int .i64 Wi] w (PutL B base (xs ++ num v W)) := by
  subst hvi hWi; exact rput_any h hB hbB hbw hx v W hv hW

/-! ### written -/

def RwPost (w : World) (L : List Bool) (t : Vl) (en : Ending) (w' : World) : Prop := ∃ v, en = .returned (.tuple #[v, t.v]) ∧ (∃ e, w' = over w e) ∧ OwnT w.heap.size w' v L

set_option maxRecDepth 100000 in
set_option maxHeartbeats 2000000 in
theorem rwrit_new (s : Vl) (hs : s.wf) (hh : s.has = false) (v : Nat) (hv : v < 18446744073709551616) (w : World) :
    Calls Tryd.prog 47 #[s.v, .int .u64 (v : Nat)] w (RwPost w (written s v).1 (written s v).2) := by
  obtain ⟨has, prev, lead, width⟩ := s
  simp only at hh
  subst hh
  obtain ⟨h1, h2, h3⟩ := hs
  simp only at h1 h2 h3
  rw [show written ⟨false, prev, lead, width⟩ v = (num v 64, ⟨true, v, 0, 0⟩) from rfl]
  have HP := hid (fun W => rput_i (B := W) (base := W.heap.size) (w := W) (Own.nil W) (over_self W) (Nat.le_refl _) (Nat.le_refl _) (by simp) v 64 hv (by omega) v 64 rfl rfl)
  go_enter Tryd.func47, Tryd.ntmps47
  go_wp2_with (go_at_call 75; (with_reducible refine (HP.out _).mono ?_); rintro _ _ ⟨⟨e, rfl⟩, lv, rfl, ho⟩; rw [List.nil_append] at ho)
  (try simp only [Exit.inBlock, Exit.then])
  refine bodyPost_ret (v := ?rv21) ?rh21 rfl ?rp21
  case rh21 => (simp only [results, show Tryd.f47.results = #[.tmp 4, .cell 5 24] from rfl]; go_simp; rfl)
  exact ⟨_, rfl, (by (try unfold Ov); repeat (first | with_reducible exact ex_over | with_reducible exact over_self _ | with_reducible refine ex_undrew ?_ | with_reducible refine ex_into ?_ _ | with_reducible refine ex_alloc ?_ _ | with_reducible refine ex_drew ?_ | ((with_reducible refine ex_setCell ?_ ?_ _); rotate_left; (first | omega | (focus (simp; done)) | (focus (simp; omega)))) | ((with_reducible refine ex_chg ?_ _ ?_); rotate_left; (first | assumption | (exact Hid.out (by assumption)))) | exact ex_over)), Own.mono (Own.over_swap ho (by simp) (Nat.le_refl _)) (by first | (simp; done) | (simp; omega))⟩
set_option maxRecDepth 100000 in
set_option maxHeartbeats 2000000 in
theorem rwrit_same (s : Vl) (hs : s.wf) (hh : s.has = true) (v : Nat) (hv : v < 18446744073709551616) (h0 : v ^^^ s.prev = 0) (w : World) :
    Calls Tryd.prog 47 #[s.v, .int .u64 (v : Nat)] w (RwPost w (written s v).1 (written s v).2) := by
  obtain ⟨has, prev, lead, width⟩ := s
  simp only at hh
  subst hh
  obtain ⟨h1, h2, h3⟩ := hs
  simp only at h1 h2 h3
  simp only at h0
  have hX := xor64 v prev hv h1
  rw [show written ⟨true, prev, lead, width⟩ v = ([false], ⟨true, v, lead, width⟩) by simp [written, h0]]
  rw [h0] at hX
  clear h0
  go_enter Tryd.func47, Tryd.ntmps47
  go_wp2
  refine M2.wp_region_mix [1, 2, 5] 5 (by kernel_rfl) (by kernel_rfl) (by decide) ?_
  simp only [List.take_succ_cons, List.take_zero, List.drop_succ_cons, List.drop_zero]
  with_reducible refine M2.mixL_quiet 1 (by kernel_rfl) ?_
  simp only [List.take_succ_cons, List.take_zero, List.drop_succ_cons, List.drop_zero]
  repeat (go_big_quiet_step (fail))
  with_reducible refine wpQuiet_nil ?_
  with_reducible refine M2.mixL_eff (by decide) ?_
  go_wp2_with ((at_builtin; refine wpList_append byte_elem tcs_len tcs_one rfl (.tmp 27) (.tmp 28) rfl (B := (w.alloc (.cells #[.bool true, .int .u64  (v : Nat), .int .u8  (lead : Nat), .int .u8  (width : Nat)] 24)).alloc (.cells #[.bool false, .int .u64  0, .int .u8  0, .int .u8  0] 24)) (xs := [false]) (Own.nil (base := w.heap.size + 1 + 1) ((w.alloc (.cells #[.bool true, .int .u64  (v : Nat), .int .u8  (lead : Nat), .int .u8  (width : Nat)] 24)).alloc (.cells #[.bool false, .int .u64  0, .int .u8  0, .int .u8  0] 24))) rfl rfl (by (try unfold Ov); repeat (first | with_reducible exact ex_over | with_reducible exact over_self _ | with_reducible refine ex_undrew ?_ | with_reducible refine ex_into ?_ _ | with_reducible refine ex_alloc ?_ _ | with_reducible refine ex_drew ?_ | ((with_reducible refine ex_setCell ?_ ?_ _); rotate_left; (first | omega | (focus (simp; done)) | (focus (simp; omega)))) | ((with_reducible refine ex_chg ?_ _ ?_); rotate_left; (first | assumption | (exact Hid.out (by assumption)))) | exact ex_over)) (by (try unfold Ov); repeat (first | with_reducible exact ex_over | with_reducible exact over_self _ | with_reducible refine ex_undrew ?_ | with_reducible refine ex_into ?_ _ | with_reducible refine ex_alloc ?_ _ | with_reducible refine ex_drew ?_ | ((with_reducible refine ex_setCell ?_ ?_ _); rotate_left; (first | omega | (focus (simp; done)) | (focus (simp; omega)))) | ((with_reducible refine ex_chg ?_ _ ?_); rotate_left; (first | assumption | (exact Hid.out (by assumption)))) | exact ex_over)) (by first | assumption | (simp; done) | (simp; omega) | omega) (by first | assumption | (simp; done) | (simp; omega) | omega) (by (repeat with_reducible refine Sl.drew ?_); exact Sl.one_new (y := false) (by simp; try omega)) (by simp only [List.length_append, List.length_singleton, List.length_nil]; unfold maxLen; omega) (by simp only [List.length_append, List.length_singleton, List.length_nil]; omega) ?_; intro v' x' hown' _ _))
  refine M2.MixQ.mk (by (try unfold Ov); repeat (first | with_reducible exact ex_over | with_reducible exact over_self _ | with_reducible refine ex_undrew ?_ | with_reducible refine ex_into ?_ _ | with_reducible refine ex_alloc ?_ _ | with_reducible refine ex_drew ?_ | ((with_reducible refine ex_setCell ?_ ?_ _); rotate_left; (first | omega | (focus (simp; done)) | (focus (simp; omega)))) | ((with_reducible refine ex_chg ?_ _ ?_); rotate_left; (first | assumption | (exact Hid.out (by assumption)))) | exact ex_over)) ?_
  with_reducible refine M2.mixL_eff (by decide) ?_
  go_wp2_with ((at_builtin; refine wpList_append byte_elem tcs_len tcs_one rfl (.tmp 27) (.tmp 28) rfl (B := (w.alloc (.cells #[.bool true, .int .u64  (v : Nat), .int .u8  (lead : Nat), .int .u8  (width : Nat)] 24)).alloc (.cells #[.bool false, .int .u64  0, .int .u8  0, .int .u8  0] 24)) (xs := [false]) (Own.nil (base := w.heap.size + 1 + 1) ((w.alloc (.cells #[.bool true, .int .u64  (v : Nat), .int .u8  (lead : Nat), .int .u8  (width : Nat)] 24)).alloc (.cells #[.bool false, .int .u64  0, .int .u8  0, .int .u8  0] 24))) rfl rfl (by (try unfold Ov); repeat (first | with_reducible exact ex_over | with_reducible exact over_self _ | with_reducible refine ex_undrew ?_ | with_reducible refine ex_into ?_ _ | with_reducible refine ex_alloc ?_ _ | with_reducible refine ex_drew ?_ | ((with_reducible refine ex_setCell ?_ ?_ _); rotate_left; (first | omega | (focus (simp; done)) | (focus (simp; omega)))) | ((with_reducible refine ex_chg ?_ _ ?_); rotate_left; (first | assumption | (exact Hid.out (by assumption)))) | exact ex_over)) (by (try unfold Ov); repeat (first | with_reducible exact ex_over | with_reducible exact over_self _ | with_reducible refine ex_undrew ?_ | with_reducible refine ex_into ?_ _ | with_reducible refine ex_alloc ?_ _ | with_reducible refine ex_drew ?_ | ((with_reducible refine ex_setCell ?_ ?_ _); rotate_left; (first | omega | (focus (simp; done)) | (focus (simp; omega)))) | ((with_reducible refine ex_chg ?_ _ ?_); rotate_left; (first | assumption | (exact Hid.out (by assumption)))) | exact ex_over)) (by first | assumption | (simp; done) | (simp; omega) | omega) (by first | assumption | (simp; done) | (simp; omega) | omega) (by (repeat with_reducible refine Sl.drew ?_); exact Sl.one_new (y := false) (by simp; try omega)) (by simp only [List.length_append, List.length_singleton, List.length_nil]; unfold maxLen; omega) (by simp only [List.length_append, List.length_singleton, List.length_nil]; omega) ?_; intro v' x' hown' _ _))
  refine M2.MixQ.mk (by (try unfold Ov); repeat (first | with_reducible exact ex_over | with_reducible exact over_self _ | with_reducible refine ex_undrew ?_ | with_reducible refine ex_into ?_ _ | with_reducible refine ex_alloc ?_ _ | with_reducible refine ex_drew ?_ | ((with_reducible refine ex_setCell ?_ ?_ _); rotate_left; (first | omega | (focus (simp; done)) | (focus (simp; omega)))) | ((with_reducible refine ex_chg ?_ _ ?_); rotate_left; (first | assumption | (exact Hid.out (by assumption)))) | exact ex_over)) ?_
  with_reducible refine M2.mixL_quiet 2 (by kernel_rfl) ?_
  simp only [List.take_succ_cons, List.take_zero, List.drop_succ_cons, List.drop_zero]
  repeat (go_big_quiet_step (fail))
  with_reducible refine wpQuiet_nil ?_
  with_reducible refine M2.mixL_nil ?_
  with_reducible refine M2.mixL_eff (by decide) ?_
  go_wp2_with ((at_builtin; refine wpList_append byte_elem tcs_len tcs_one rfl (.tmp 27) (.tmp 28) rfl (B := (w.alloc (.cells #[.bool true, .int .u64  (v : Nat), .int .u8  (lead : Nat), .int .u8  (width : Nat)] 24)).alloc (.cells #[.bool false, .int .u64  0, .int .u8  0, .int .u8  0] 24)) (xs := [false]) (Own.nil (base := w.heap.size + 1 + 1) ((w.alloc (.cells #[.bool true, .int .u64  (v : Nat), .int .u8  (lead : Nat), .int .u8  (width : Nat)] 24)).alloc (.cells #[.bool false, .int .u64  0, .int .u8  0, .int .u8  0] 24))) rfl rfl (by (try unfold Ov); repeat (first | with_reducible exact ex_over | with_reducible exact over_self _ | with_reducible refine ex_undrew ?_ | with_reducible refine ex_into ?_ _ | with_reducible refine ex_alloc ?_ _ | with_reducible refine ex_drew ?_ | ((with_reducible refine ex_setCell ?_ ?_ _); rotate_left; (first | omega | (focus (simp; done)) | (focus (simp; omega)))) | ((with_reducible refine ex_chg ?_ _ ?_); rotate_left; (first | assumption | (exact Hid.out (by assumption)))) | exact ex_over)) (by (try unfold Ov); repeat (first | with_reducible exact ex_over | with_reducible exact over_self _ | with_reducible refine ex_undrew ?_ | with_reducible refine ex_into ?_ _ | with_reducible refine ex_alloc ?_ _ | with_reducible refine ex_drew ?_ | ((with_reducible refine ex_setCell ?_ ?_ _); rotate_left; (first | omega | (focus (simp; done)) | (focus (simp; omega)))) | ((with_reducible refine ex_chg ?_ _ ?_); rotate_left; (first | assumption | (exact Hid.out (by assumption)))) | exact ex_over)) (by first | assumption | (simp; done) | (simp; omega) | omega) (by first | assumption | (simp; done) | (simp; omega) | omega) (by (repeat with_reducible refine Sl.drew ?_); exact Sl.one_new (y := false) (by simp; try omega)) (by simp only [List.length_append, List.length_singleton, List.length_nil]; unfold maxLen; omega) (by simp only [List.length_append, List.length_singleton, List.length_nil]; omega) ?_; intro v' x' hown' _ _))
  refine M2.MixQ.mk trivial ?_
  with_reducible refine M2.mixL_nil ?_
  go_wp2
  (try simp only [Exit.inBlock, Exit.then])
  refine bodyPost_ret (v := ?rv22) ?rh22 rfl ?rp22
  case rh22 => (simp only [results, show Tryd.f47.results = #[.tmp 4, .cell 5 24] from rfl]; go_simp; rfl)
  exact ⟨_, rfl, (by (try unfold Ov); repeat (first | with_reducible exact ex_over | with_reducible exact over_self _ | with_reducible refine ex_undrew ?_ | with_reducible refine ex_into ?_ _ | with_reducible refine ex_alloc ?_ _ | with_reducible refine ex_drew ?_ | ((with_reducible refine ex_setCell ?_ ?_ _); rotate_left; (first | omega | (focus (simp; done)) | (focus (simp; omega)))) | ((with_reducible refine ex_chg ?_ _ ?_); rotate_left; (first | assumption | (exact Hid.out (by assumption)))) | exact ex_over)), Own.mono (Own.over_swap hown' (by first | exact Nat.le_refl _ | rfl | omega | (simp; done) | (simp; omega)) (by first | exact Nat.le_refl _ | rfl | omega | (simp; done) | (simp; omega))) (by first | exact Nat.le_refl _ | rfl | omega | (simp; done) | (simp; omega))⟩

theorem bit0_e {d k : Nat} (hd : d < 18446744073709551616) (h : d.testBit k = false) : bits .and .u64 ((d : Int) / (2 : Int) ^ k) 1 = 0 := by rw [bit_e d k hd, h]; rfl
theorem bit1_e {d k : Nat} (hd : d < 18446744073709551616) (h : d.testBit k = true) : bits .and .u64 ((d : Int) / (2 : Int) ^ k) 1 = 1 := by rw [bit_e d k hd, h]; rfl

set_option maxRecDepth 100000 in
set_option maxHeartbeats 4000000 in
theorem rwrit_in (s : Vl) (hs : s.wf) (hh : s.has = true) (hl : s.lead + s.width ≤ 64) (v : Nat) (hv : v < 18446744073709551616) (h0 : v ^^^ s.prev ≠ 0) (hb : inBand s.lead s.width (v ^^^ s.prev) = true) (w : World) :
    Calls Tryd.prog 47 #[s.v, .int .u64 (v : Nat)] w (RwPost w (written s v).1 (written s v).2) := by
  have hwr : written s v = ([true, false] ++ num ((v ^^^ s.prev) >>> (64 - s.lead - s.width)) s.width, { s with prev := v }) := by unfold written; rw [if_pos hh, if_neg h0, if_pos hb]
  rw [hwr]
  clear hwr
  obtain ⟨has, prev, lead, width⟩ := s
  simp only at hh
  subst hh
  obtain ⟨h1, h2, h3⟩ := hs
  simp only at h1 h2 h3
  simp only at h0 hb hl
  have hd : v ^^^ prev < 18446744073709551616 := Nat.xor_lt_two_pow (n := 64) hv h1
  have hX := xor64 v prev hv h1
  generalize hdd : v ^^^ prev = d at *
  clear hdd
  have hlz := lz_spec hd h0
  have htz := tz_spec hd h0
  have hlt0 := lz_tz hd h0
  have hA := around_le hd h0
  have h0' : ((d : Int) == 0) = false := by simp; omega
  have hal : aLead d = min (lz d) 31 := rfl
  obtain ⟨D, hD⟩ : ∃ D, d >>> (64 - lead - width) = D := ⟨_, rfl⟩
  have hDl : D < 18446744073709551616 := by rw [← hD]; exact shr_lt hd
  have hSh : (d : Int) / (2 : Int) ^ (64 - lead - width) = (D : Int) := by rw [cast_shr, hD]
  rw [hD]
  simp only [inBand, Bool.and_eq_true, decide_eq_true_eq] at hb
  obtain ⟨⟨b1, b2⟩, b3⟩ := hb
  generalize lz d = Z at *
  generalize tz d = T at *
  obtain ⟨z1, z2, z3⟩ := hlz
  obtain ⟨t1, t2, t3⟩ := htz
  have HZ := hid z3
  have HZ1 := hid z2
  have HT := hid t3
  have HT1 := hid t2
  clear z3 z2 t3 t2 hD hA hal h0
  have b4 : 64 ≤ lead + width + T := by omega
  have b5 : (lead : Int) ≤ (Z : Int) := by omega
  have b6 : 0 < (width : Int) := by omega
  go_enter Tryd.func47, Tryd.ntmps47
  go_wp2
  go_loop [8] (fun i => ∃ (k : Nat), k ≤ Z ∧ i = .int .i64 k) (fun i => (64 - intOf i).toNat)
  case atStart => exact ⟨0, Nat.zero_le _, rfl⟩
  case round =>
    obtain ⟨k, hk, rfl⟩ := hrel
    by_cases hlt : k < Z
    · have hE := bit0_e hd (HZ.out k hlt)
      go_wp2
      go_round
      case rel => exact ⟨k + 1, by omega, by go_num⟩
      case measure => simp [intOf]; omega
    · obtain rfl : Z = k := by omega
      have hE := bit1_e hd HZ1.out
      go_wp2
      clear hE
      go_loop [9] (fun i => ∃ (E : Nat), 64 - T ≤ E ∧ E ≤ 64 ∧ i = .int .i64 E) (fun i => (intOf i).toNat)
      case atStart => exact ⟨64, by omega, Nat.le_refl _, rfl⟩
      case round =>
        obtain ⟨E, hE1, hE2, rfl⟩ := hrel
        by_cases hlt2 : 64 - E < T
        · have hE := bit0_e hd (HT.out (64 - E) hlt2)
          go_wp2
          go_round
          case rel => exact ⟨E - 1, by omega, by omega, by go_num⟩
          case measure => simp [intOf]; omega
        · have hET : 64 - E = T := by omega
          have hE := bit1_e hd (show d.testBit (64 - E) = true by rw [hET]; exact HT1.out)
          clear hE1 hlt2 hlt hk
          have HET := hid hET
          clear hET
          have b7 : (E : Int) ≤ (lead : Int) + (width : Int) := by have := HET.out; omega
          go_wp2_with (at_builtin; refine wpList_append byte_elem tcs_len tcs_one rfl (.tmp 70) (.tmp 71) rfl (B := (w.alloc (.cells #[.bool true, .int .u64  (v : Nat), .int .u8  (lead : Nat), .int .u8  (width : Nat)] 24)).alloc (.cells #[.bool false, .int .u64  0, .int .u8  0, .int .u8  0] 24)) (xs := [true, false]) (Own.nil (base := w.heap.size + 1 + 1) ((w.alloc (.cells #[.bool true, .int .u64  (v : Nat), .int .u8  (lead : Nat), .int .u8  (width : Nat)] 24)).alloc (.cells #[.bool false, .int .u64  0, .int .u8  0, .int .u8  0] 24))) rfl rfl (by (try unfold Ov); repeat (first | with_reducible exact ex_over | with_reducible exact over_self _ | with_reducible refine ex_undrew ?_ | with_reducible refine ex_into ?_ _ | with_reducible refine ex_alloc ?_ _ | with_reducible refine ex_drew ?_ | ((with_reducible refine ex_setCell ?_ ?_ _); rotate_left; (first | omega | (focus (simp; done)) | (focus (simp; omega)))) | ((with_reducible refine ex_chg ?_ _ ?_); rotate_left; (first | assumption | (exact Hid.out (by assumption)))) | exact ex_over)) (by (try unfold Ov); repeat (first | with_reducible exact ex_over | with_reducible exact over_self _ | with_reducible refine ex_undrew ?_ | with_reducible refine ex_into ?_ _ | with_reducible refine ex_alloc ?_ _ | with_reducible refine ex_drew ?_ | ((with_reducible refine ex_setCell ?_ ?_ _); rotate_left; (first | omega | (focus (simp; done)) | (focus (simp; omega)))) | ((with_reducible refine ex_chg ?_ _ ?_); rotate_left; (first | assumption | (exact Hid.out (by assumption)))) | exact ex_over)) (by first | assumption | (simp; done) | (simp; omega) | omega) (by first | assumption | (simp; done) | (simp; omega) | omega) (by (repeat with_reducible refine Sl.drew ?_); refine Sl.lit_as (xs := [true, false]) tcs_len ?_ ?_ ?_ ?_ <;> first | rfl | (simp; done) | (simp [maxLen]; done) | (simp; omega)) (by simp only [List.length_append, List.length_cons, List.length_nil]; unfold maxLen; omega) (by simp only [List.length_append, List.length_cons, List.length_nil]; omega) ?_; intro v' x' hown' _ _; rw [List.nil_append] at hown')
          refine M2.wp_region_mixZ (fun w' => ∃ e : World, w' = over ((w.alloc (.cells #[.bool true, .int .u64  (v : Nat), .int .u8  (lead : Nat), .int .u8  (width : Nat)] 24)).alloc (.cells #[.bool false, .int .u64  0, .int .u8  0, .int .u8  0] 24)) e) [15, 18] 18 (by kernel_rfl) (by kernel_rfl) (by decide) ((by (try unfold Ov); repeat (first | with_reducible exact ex_over | with_reducible exact over_self _ | with_reducible refine ex_undrew ?_ | with_reducible refine ex_into ?_ _ | with_reducible refine ex_alloc ?_ _ | with_reducible refine ex_drew ?_ | ((with_reducible refine ex_setCell ?_ ?_ _); rotate_left; (first | omega | (focus (simp; done)) | (focus (simp; omega)))) | ((with_reducible refine ex_chg ?_ _ ?_); rotate_left; (first | assumption | (exact Hid.out (by assumption)))) | exact ex_over))) ?_
          simp only [List.take_succ_cons, List.take_zero, List.drop_succ_cons, List.drop_zero]
          with_reducible refine M2.mixL_quiet 15 (by kernel_rfl) ?_
          simp only [List.take_succ_cons, List.take_zero, List.drop_succ_cons, List.drop_zero]
          repeat (go_big_quiet_step (fail))
          with_reducible refine wpQuiet_nil ?_
          with_reducible refine M2.mixL_eff (by decide) ?_
          go_wp2_with ((go_at_call 75; (with_reducible refine (rput_any (B := (w.alloc (.cells #[.bool true, .int .u64  (v : Nat), .int .u8  (lead : Nat), .int .u8  (width : Nat)] 24)).alloc (.cells #[.bool false, .int .u64  0, .int .u8  0, .int .u8  0] 24)) (base := w.heap.size + 1 + 1) (xs := [true, false]) (by repeat (first | with_reducible exact hown' | ((with_reducible refine Own.set_ne ?_ ?_ _); rotate_left; (first | assumption | (focus (simp; done)) | (focus (simp [Value.ownBlock]; done)) | (focus (simp [Value.ownBlock]; omega)))) | ((with_reducible refine Own.in_some ?_ _ ?_); rotate_left; (first | assumption | (focus (simp; done)) | (focus (simp; omega)))) | ((with_reducible refine Own.in_one ?_ _ ?_); rotate_left; (first | assumption | (focus (simp [Value.ownBlock]; done)) | (focus (simp [Value.ownBlock]; omega)))) | ((with_reducible refine Own.chg ?_ (chg_chg _ _ _) ?_); rotate_left; (first | assumption | (focus (simp; done)) | (focus (simp; omega)))) | with_reducible refine Own.over ?_ _ | with_reducible refine Own.alloc ?_ _ | with_reducible refine Own.drew ?_ | exact hown')) (by (try unfold Ov); repeat (first | with_reducible exact ex_over | with_reducible exact over_self _ | with_reducible refine ex_undrew ?_ | with_reducible refine ex_into ?_ _ | with_reducible refine ex_alloc ?_ _ | with_reducible refine ex_drew ?_ | ((with_reducible refine ex_setCell ?_ ?_ _); rotate_left; (first | omega | (focus (simp; done)) | (focus (simp; omega)))) | ((with_reducible refine ex_chg ?_ _ ?_); rotate_left; (first | assumption | (exact Hid.out (by assumption)))) | exact ex_over)) (by first | exact Nat.le_refl _ | rfl | omega | (simp; done) | (simp; omega)) (by first | exact Nat.le_refl _ | rfl | omega | (simp; done) | (simp; omega)) (by first | exact Nat.le_refl _ | rfl | omega | (simp; done) | (simp; omega)) D width hDl (by omega)).mono ?_); rintro _ _ ⟨⟨e, rfl⟩, lv, rfl, ho⟩))
          refine M2.MixQ.mk (by (try unfold Ov); repeat (first | with_reducible exact ex_over | with_reducible exact over_self _ | with_reducible refine ex_undrew ?_ | with_reducible refine ex_into ?_ _ | with_reducible refine ex_alloc ?_ _ | with_reducible refine ex_drew ?_ | ((with_reducible refine ex_setCell ?_ ?_ _); rotate_left; (first | omega | (focus (simp; done)) | (focus (simp; omega)))) | ((with_reducible refine ex_chg ?_ _ ?_); rotate_left; (first | assumption | (exact Hid.out (by assumption)))) | exact ex_over)) ?_
          with_reducible refine M2.mixL_quiet 2 (by kernel_rfl) ?_
          simp only [List.take_succ_cons, List.take_zero, List.drop_succ_cons, List.drop_zero]
          repeat (go_big_quiet_step (fail))
          with_reducible refine wpQuiet_nil ?_
          with_reducible refine M2.mixL_nil ?_
          with_reducible refine M2.mixL_eff (by decide) ?_
          go_wp2_with ((go_at_call 75; (with_reducible refine (rput_any (B := (w.alloc (.cells #[.bool true, .int .u64  (v : Nat), .int .u8  (lead : Nat), .int .u8  (width : Nat)] 24)).alloc (.cells #[.bool false, .int .u64  0, .int .u8  0, .int .u8  0] 24)) (base := w.heap.size + 1 + 1) (xs := [true, false]) (by repeat (first | with_reducible exact hown' | ((with_reducible refine Own.set_ne ?_ ?_ _); rotate_left; (first | assumption | (focus (simp; done)) | (focus (simp [Value.ownBlock]; done)) | (focus (simp [Value.ownBlock]; omega)))) | ((with_reducible refine Own.in_some ?_ _ ?_); rotate_left; (first | assumption | (focus (simp; done)) | (focus (simp; omega)))) | ((with_reducible refine Own.in_one ?_ _ ?_); rotate_left; (first | assumption | (focus (simp [Value.ownBlock]; done)) | (focus (simp [Value.ownBlock]; omega)))) | ((with_reducible refine Own.chg ?_ (chg_chg _ _ _) ?_); rotate_left; (first | assumption | (focus (simp; done)) | (focus (simp; omega)))) | with_reducible refine Own.over ?_ _ | with_reducible refine Own.alloc ?_ _ | with_reducible refine Own.drew ?_ | exact hown')) (by (try unfold Ov); repeat (first | with_reducible exact ex_over | with_reducible exact over_self _ | with_reducible refine ex_undrew ?_ | with_reducible refine ex_into ?_ _ | with_reducible refine ex_alloc ?_ _ | with_reducible refine ex_drew ?_ | ((with_reducible refine ex_setCell ?_ ?_ _); rotate_left; (first | omega | (focus (simp; done)) | (focus (simp; omega)))) | ((with_reducible refine ex_chg ?_ _ ?_); rotate_left; (first | assumption | (exact Hid.out (by assumption)))) | exact ex_over)) (by first | exact Nat.le_refl _ | rfl | omega | (simp; done) | (simp; omega)) (by first | exact Nat.le_refl _ | rfl | omega | (simp; done) | (simp; omega)) (by first | exact Nat.le_refl _ | rfl | omega | (simp; done) | (simp; omega)) D width hDl (by omega)).mono ?_); rintro _ _ ⟨⟨e, rfl⟩, lv, rfl, ho⟩))
          refine M2.MixQ.mk trivial ?_
          with_reducible refine M2.mixL_nil ?_
          go_wp2
          (try simp only [Exit.inBlock, Exit.then])
          refine bodyPost_ret (v := ?rv23) ?rh23 rfl ?rp23
          case rh23 => (simp only [results, show Tryd.f47.results = #[.tmp 4, .cell 5 24] from rfl]; go_simp; rfl)
          exact ⟨_, rfl, (by (try unfold Ov); repeat (first | with_reducible exact ex_over | with_reducible exact over_self _ | with_reducible refine ex_undrew ?_ | with_reducible refine ex_into ?_ _ | with_reducible refine ex_alloc ?_ _ | with_reducible refine ex_drew ?_ | ((with_reducible refine ex_setCell ?_ ?_ _); rotate_left; (first | omega | (focus (simp; done)) | (focus (simp; omega)))) | ((with_reducible refine ex_chg ?_ _ ?_); rotate_left; (first | assumption | (exact Hid.out (by assumption)))) | exact ex_over)), Own.mono (Own.over_swap ho (by first | exact Nat.le_refl _ | rfl | omega | (simp; done) | (simp; omega)) (by first | exact Nat.le_refl _ | rfl | omega | (simp; done) | (simp; omega))) (by first | exact Nat.le_refl _ | rfl | omega | (simp; done) | (simp; omega))⟩
end Go.Proofs.YthljlajdkdgieaaDoor
