/- Walks: the document's written, the last way. -/
import Derived.Test.YthljlajdkdgieaaDoorGG
namespace Go.Proofs.YthljlajdkdgieaaDoor
set_option linter.unusedVariables false
set_option linter.unusedSimpArgs false
open Go.RowKit

set_option maxRecDepth 100000 in
set_option maxHeartbeats 8000000 in
theorem rwrit_anew (s : Vl) (hs : s.wf) (hh : s.has = true) (hl : s.lead + s.width ≤ 64) (v : Nat) (hv : v < 18446744073709551616) (h0 : v ^^^ s.prev ≠ 0) (hb : inBand s.lead s.width (v ^^^ s.prev) = false) (w : World) :
    Calls Tryd.prog 47 #[s.v, .int .u64 (v : Nat)] w (RwPost w (written s v).1 (written s v).2) := by
  have hwr : written s v = ([true, true] ++ num (aLead (v ^^^ s.prev)) 5 ++ num (aSize (v ^^^ s.prev) - 1) 6 ++ num ((v ^^^ s.prev) >>> tz (v ^^^ s.prev)) (aSize (v ^^^ s.prev)), ⟨true, v, aLead (v ^^^ s.prev), aSize (v ^^^ s.prev)⟩) := by unfold written; rw [if_pos hh, if_neg h0, hb]; simp
  rw [hwr]
  clear hwr
  obtain ⟨has, prev, lead, width⟩ := s
  simp only at hh
  subst hh
  obtain ⟨h1, h2, h3⟩ := hs
  simp only at h1 h2 h3
  simp only at h0 hb hl
  have hd : v ^^^ prev < 18446744073709551616 := Nat.xor_lt_two_pow (n := 64) hv h1
  have hX := xor64 v prev hv h1
  generalize hdd : v ^^^ prev = d at *
  clear hdd
  have hlz := lz_spec hd h0
  have htz := tz_spec hd h0
  have hlt0 := lz_tz hd h0
  have hA := around_le hd h0
  have h0' : ((d : Int) == 0) = false := by simp; omega
  have hal : aLead d = min (lz d) 31 := rfl
  have hb3 : ¬ (0 < width ∧ lead ≤ lz d ∧ 64 - lead - width ≤ tz d) := by
    intro hc
    rw [inBand, decide_eq_true hc.1, decide_eq_true hc.2.1, decide_eq_true hc.2.2] at hb
    cases hb
  clear hb
  generalize hZ : lz d = Z at *
  generalize hTT : tz d = T at *
  obtain ⟨L, hL⟩ : ∃ L, aLead d = L := ⟨_, rfl⟩
  obtain ⟨S, hS⟩ : ∃ S, aSize d = S := ⟨_, rfl⟩
  obtain ⟨D, hD⟩ : ∃ D, d >>> T = D := ⟨_, rfl⟩
  have hDl : D < 18446744073709551616 := by rw [← hD]; exact shr_lt hd
  rw [hL, hS] at hA
  rw [hL] at hal
  rw [hL, hS, hD]
  obtain ⟨a1, a2, a3, a4, a5, a6, a7⟩ := hA
  obtain ⟨R, hR⟩ : ∃ R, S - 1 = R := ⟨_, rfl⟩
  have hSm : (S : Int) - 1 = (R : Int) := by omega
  have hRl : R < 64 := by omega
  rw [hR]
  have HSH : Hid (∀ E : Nat, 64 - E = T → (d : Int) / (2 : Int) ^ (64 - E) = (D : Int)) := hid (fun E hE => by rw [cast_shr, hE, hD])
  have HES : Hid (∀ E : Nat, E ≤ 64 → 64 - E = T → (E : Int) - (L : Int) = (S : Int)) := hid (fun E h1 h2 => by omega)
  obtain ⟨z1, z2, z3⟩ := hlz
  obtain ⟨t1, t2, t3⟩ := htz
  have HZ := hid z3
  have HZ1 := hid z2
  have HT := hid t3
  have HT1 := hid t2
  have HAL := hid hal
  clear z3 z2 t3 t2 hD h0 hZ hTT hL hS hR a6 a7 hal
  have hcs : ¬ 0 < width ∨ (0 < width ∧ ¬ lead ≤ Z) ∨ (0 < width ∧ lead ≤ Z ∧ ¬ 64 ≤ lead + width + T) := by omega
  clear hb3
  obtain ⟨WW, hWW⟩ : ∃ WW, [true, true] ++ num L 5 ++ num R 6 ++ num D S = WW := ⟨_, rfl⟩
  rw [hWW]
  have HWW := hid hWW
  clear hWW
  by_cases h31 : (Z : Int) ≤ 31
  · obtain rfl : L = Z := by rw [HAL.out]; omega
    have hmin : min (L : Int) 31 = (L : Int) := by omega
    rcases hcs with c | ⟨hw0, c⟩ | ⟨hw0, hlz0, c⟩
    · have c' : ¬ 0 < (width : Int) := by omega
      go_enter Tryd.func47, Tryd.ntmps47
      go_wp2
      go_loop [8] (fun i => ∃ (k : Nat), k ≤ L ∧ i = .int .i64 k) (fun i => (64 - intOf i).toNat)
      case atStart => exact ⟨0, Nat.zero_le _, rfl⟩
      case round =>
        obtain ⟨k, hk, rfl⟩ := hrel
        by_cases hlt : k < L
        · have hE := bit0_e hd (HZ.out k hlt)
          go_wp2
          go_round
          case rel => exact ⟨k + 1, by omega, by go_num⟩
          case measure => simp [intOf]; omega
        · obtain rfl : L = k := by omega
          have hE := bit1_e hd HZ1.out
          go_wp2
          clear hE
          go_loop [9] (fun i => ∃ (E : Nat), 64 - T ≤ E ∧ E ≤ 64 ∧ i = .int .i64 E) (fun i => (intOf i).toNat)
          case atStart => exact ⟨64, by omega, Nat.le_refl _, rfl⟩
          case round =>
            obtain ⟨E, hE1, hE2, rfl⟩ := hrel
            by_cases hlt2 : 64 - E < T
            · have hE := bit0_e hd (HT.out (64 - E) hlt2)
              go_wp2
              go_round
              case rel => exact ⟨E - 1, by omega, by omega, by go_num⟩
              case measure => simp [intOf]; omega
            · have hET : 64 - E = T := by omega
              have hE := bit1_e hd (show d.testBit (64 - E) = true by rw [hET]; exact HT1.out)
              clear hE1 hlt2 hlt hk
              have HET := hid hET
              clear hET
              have hSh := HSH.out E HET.out
              have hE9 : bits .and .u64 (D : Int) 1 = 1 := by rw [← hSh]; exact hE
              have hES : (E : Int) - ((L : Nat) : Int) = (S : Int) := HES.out E hE2 HET.out
              have HE2 : 64 ≤ E + T := by have := HET.out; omega
              have HE3 : E + T ≤ 64 := by have := HET.out; omega
              have HP5 : Hid (∀ (W : World) (lv : Value), OwnT (w.heap.size + 1 + 1) W lv [true, true] → Ov ((w.alloc (.cells #[.bool true, .int .u64  (v : Nat), .int .u8  (lead : Nat), .int .u8  (width : Nat)] 24)).alloc (.cells #[.bool false, .int .u64  0, .int .u8  0, .int .u8  0] 24)) W → Calls Tryd.prog 75 #[lv, .int .u64 ((L : Nat) : Int), .int .i64 5] W (PutL ((w.alloc (.cells #[.bool true, .int .u64  (v : Nat), .int .u8  (lead : Nat), .int .u8  (width : Nat)] 24)).alloc (.cells #[.bool false, .int .u64  0, .int .u8  0, .int .u8  0] 24)) (w.heap.size + 1 + 1) ([true, true] ++ num L 5))) :=
                hid (fun W lv h1 h2 => rput_i h1 h2 (by first | exact Nat.le_refl _ | rfl | omega | (simp; done) | (simp; omega)) (OwnT.base_le h1 (by simp)) (by simp) L 5 (by omega) (by omega) ((L : Nat) : Int) 5 rfl rfl)
              have HP6 : Hid (∀ (W : World) (lv : Value), OwnT (w.heap.size + 1 + 1) W lv ([true, true] ++ num L 5) → Ov ((w.alloc (.cells #[.bool true, .int .u64  (v : Nat), .int .u8  (lead : Nat), .int .u8  (width : Nat)] 24)).alloc (.cells #[.bool false, .int .u64  0, .int .u8  0, .int .u8  0] 24)) W → Calls Tryd.prog 75 #[lv, .int .u64 ((R : Nat) : Int), .int .i64 6] W (PutL ((w.alloc (.cells #[.bool true, .int .u64  (v : Nat), .int .u8  (lead : Nat), .int .u8  (width : Nat)] 24)).alloc (.cells #[.bool false, .int .u64  0, .int .u8  0, .int .u8  0] 24)) (w.heap.size + 1 + 1) ([true, true] ++ num L 5 ++ num R 6))) :=
                hid (fun W lv h1 h2 => rput_i h1 h2 (by first | exact Nat.le_refl _ | rfl | omega | (simp; done) | (simp; omega)) (OwnT.base_le h1 (by simp)) (by simp [num_length]) R 6 (by omega) (by omega) R 6 rfl rfl)
              have HP7 : Hid (∀ (W : World) (lv : Value), OwnT (w.heap.size + 1 + 1) W lv ([true, true] ++ num L 5 ++ num R 6) → Ov ((w.alloc (.cells #[.bool true, .int .u64  (v : Nat), .int .u8  (lead : Nat), .int .u8  (width : Nat)] 24)).alloc (.cells #[.bool false, .int .u64  0, .int .u8  0, .int .u8  0] 24)) W → Calls Tryd.prog 75 #[lv, .int .u64 ((D : Nat) : Int), .int .i64 ((S : Nat) : Int)] W (PutL ((w.alloc (.cells #[.bool true, .int .u64  (v : Nat), .int .u8  (lead : Nat), .int .u8  (width : Nat)] 24)).alloc (.cells #[.bool false, .int .u64  0, .int .u8  0, .int .u8  0] 24)) (w.heap.size + 1 + 1) WW)) :=
                hid (fun W lv h1 h2 => by rw [← HWW.out]; exact rput_any h1 h2 (by first | exact Nat.le_refl _ | rfl | omega | (simp; done) | (simp; omega)) (OwnT.base_le h1 (by simp)) (by simp [num_length]) D S (by omega) (by omega))
              skip
              go_wp2_with (first | (at_builtin; refine wpList_append byte_elem tcs_len tcs_one rfl (.tmp 95) (.tmp 96) rfl (B := (w.alloc (.cells #[.bool true, .int .u64  (v : Nat), .int .u8  (lead : Nat), .int .u8  (width : Nat)] 24)).alloc (.cells #[.bool false, .int .u64  0, .int .u8  0, .int .u8  0] 24)) (xs := [true, true]) (Own.nil (base := w.heap.size + 1 + 1) ((w.alloc (.cells #[.bool true, .int .u64  (v : Nat), .int .u8  (lead : Nat), .int .u8  (width : Nat)] 24)).alloc (.cells #[.bool false, .int .u64  0, .int .u8  0, .int .u8  0] 24))) rfl rfl (by (try unfold Ov); repeat (first | with_reducible exact ex_over | with_reducible exact over_self _ | with_reducible refine ex_undrew ?_ | with_reducible refine ex_into ?_ _ | with_reducible refine ex_alloc ?_ _ | with_reducible refine ex_drew ?_ | ((with_reducible refine ex_setCell ?_ ?_ _); rotate_left; (first | omega | (focus (simp; done)) | (focus (simp; omega)))) | ((with_reducible refine ex_chg ?_ _ ?_); rotate_left; (first | assumption | (exact Hid.out (by assumption)))) | exact ex_over)) (by (try unfold Ov); repeat (first | with_reducible exact ex_over | with_reducible exact over_self _ | with_reducible refine ex_undrew ?_ | with_reducible refine ex_into ?_ _ | with_reducible refine ex_alloc ?_ _ | with_reducible refine ex_drew ?_ | ((with_reducible refine ex_setCell ?_ ?_ _); rotate_left; (first | omega | (focus (simp; done)) | (focus (simp; omega)))) | ((with_reducible refine ex_chg ?_ _ ?_); rotate_left; (first | assumption | (exact Hid.out (by assumption)))) | exact ex_over)) (by first | assumption | (simp; done) | (simp; omega) | omega) (by first | assumption | (simp; done) | (simp; omega) | omega) (by (repeat with_reducible refine Sl.drew ?_); refine Sl.lit_as (xs := [true, true]) tcs_len ?_ ?_ ?_ ?_ <;> first | rfl | (simp; done) | (simp [maxLen]; done) | (simp; omega)) (by simp only [List.length_append, List.length_cons, List.length_nil]; unfold maxLen; omega) (by simp only [List.length_append, List.length_cons, List.length_nil]; omega) ?_; intro v' x' ho0 _ _; rw [List.nil_append] at ho0) | (go_at_call 75; (with_reducible refine (HP5.out _ _ (by repeat (first | with_reducible exact ho0 | ((with_reducible refine Own.set_ne ?_ ?_ _); rotate_left; (first | assumption | (focus (simp; done)) | (focus (simp [Value.ownBlock]; done)) | (focus (simp [Value.ownBlock]; omega)))) | ((with_reducible refine Own.in_some ?_ _ ?_); rotate_left; (first | assumption | (focus (simp; done)) | (focus (simp; omega)))) | ((with_reducible refine Own.in_one ?_ _ ?_); rotate_left; (first | assumption | (focus (simp [Value.ownBlock]; done)) | (focus (simp [Value.ownBlock]; omega)))) | ((with_reducible refine Own.chg ?_ (chg_chg _ _ _) ?_); rotate_left; (first | assumption | (focus (simp; done)) | (focus (simp; omega)))) | with_reducible refine Own.over ?_ _ | with_reducible refine Own.alloc ?_ _ | with_reducible refine Own.drew ?_ | exact ho0)) (by (try unfold Ov); repeat (first | with_reducible exact ex_over | with_reducible exact over_self _ | with_reducible refine ex_undrew ?_ | with_reducible refine ex_into ?_ _ | with_reducible refine ex_alloc ?_ _ | with_reducible refine ex_drew ?_ | ((with_reducible refine ex_setCell ?_ ?_ _); rotate_left; (first | omega | (focus (simp; done)) | (focus (simp; omega)))) | ((with_reducible refine ex_chg ?_ _ ?_); rotate_left; (first | assumption | (exact Hid.out (by assumption)))) | exact ex_over))).mono ?_); rintro _ _ ⟨⟨e1, rfl⟩, lv1, rfl, ho1⟩) | (go_at_call 75; (with_reducible refine (HP6.out _ _ (by repeat (first | with_reducible exact ho1 | ((with_reducible refine Own.set_ne ?_ ?_ _); rotate_left; (first | assumption | (focus (simp; done)) | (focus (simp [Value.ownBlock]; done)) | (focus (simp [Value.ownBlock]; omega)))) | ((with_reducible refine Own.in_some ?_ _ ?_); rotate_left; (first | assumption | (focus (simp; done)) | (focus (simp; omega)))) | ((with_reducible refine Own.in_one ?_ _ ?_); rotate_left; (first | assumption | (focus (simp [Value.ownBlock]; done)) | (focus (simp [Value.ownBlock]; omega)))) | ((with_reducible refine Own.chg ?_ (chg_chg _ _ _) ?_); rotate_left; (first | assumption | (focus (simp; done)) | (focus (simp; omega)))) | with_reducible refine Own.over ?_ _ | with_reducible refine Own.alloc ?_ _ | with_reducible refine Own.drew ?_ | exact ho1)) (by (try unfold Ov); repeat (first | with_reducible exact ex_over | with_reducible exact over_self _ | with_reducible refine ex_undrew ?_ | with_reducible refine ex_into ?_ _ | with_reducible refine ex_alloc ?_ _ | with_reducible refine ex_drew ?_ | ((with_reducible refine ex_setCell ?_ ?_ _); rotate_left; (first | omega | (focus (simp; done)) | (focus (simp; omega)))) | ((with_reducible refine ex_chg ?_ _ ?_); rotate_left; (first | assumption | (exact Hid.out (by assumption)))) | exact ex_over))).mono ?_); rintro _ _ ⟨⟨e2, rfl⟩, lv2, rfl, ho2⟩) | (go_at_call 75; (with_reducible refine (HP7.out _ _ (by repeat (first | with_reducible exact ho2 | ((with_reducible refine Own.set_ne ?_ ?_ _); rotate_left; (first | assumption | (focus (simp; done)) | (focus (simp [Value.ownBlock]; done)) | (focus (simp [Value.ownBlock]; omega)))) | ((with_reducible refine Own.in_some ?_ _ ?_); rotate_left; (first | assumption | (focus (simp; done)) | (focus (simp; omega)))) | ((with_reducible refine Own.in_one ?_ _ ?_); rotate_left; (first | assumption | (focus (simp [Value.ownBlock]; done)) | (focus (simp [Value.ownBlock]; omega)))) | ((with_reducible refine Own.chg ?_ (chg_chg _ _ _) ?_); rotate_left; (first | assumption | (focus (simp; done)) | (focus (simp; omega)))) | with_reducible refine Own.over ?_ _ | with_reducible refine Own.alloc ?_ _ | with_reducible refine Own.drew ?_ | exact ho2)) (by (try unfold Ov); repeat (first | with_reducible exact ex_over | with_reducible exact over_self _ | with_reducible refine ex_undrew ?_ | with_reducible refine ex_into ?_ _ | with_reducible refine ex_alloc ?_ _ | with_reducible refine ex_drew ?_ | ((with_reducible refine ex_setCell ?_ ?_ _); rotate_left; (first | omega | (focus (simp; done)) | (focus (simp; omega)))) | ((with_reducible refine ex_chg ?_ _ ?_); rotate_left; (first | assumption | (exact Hid.out (by assumption)))) | exact ex_over))).mono ?_); rintro _ _ ⟨⟨e3, rfl⟩, lv3, rfl, ho3⟩))
              refine M2.wp_region_mix [3] 3 (by kernel_rfl) (by kernel_rfl) (by decide) ?_
              simp only [List.take_succ_cons, List.take_zero, List.drop_succ_cons, List.drop_zero]
              with_reducible refine M2.mixL_quiet 3 (by kernel_rfl) ?_
              simp only [List.take_succ_cons, List.take_zero, List.drop_succ_cons, List.drop_zero]
              repeat (go_big_quiet_step (fail))
              with_reducible refine wpQuiet_nil ?_
              with_reducible refine M2.mixL_nil ?_
              with_reducible refine M2.mixL_eff (by decide) ?_
              go_wp2_with (fail)
              refine M2.MixQ.mk trivial ?_
              with_reducible refine M2.mixL_nil ?_
              go_wp2
              (try simp only [Exit.inBlock, Exit.then])
              refine bodyPost_ret (v := ?rv67) ?rh67 rfl ?rp67
              case rh67 => (simp only [results, show Tryd.f47.results = #[.tmp 4, .cell 5 24] from rfl]; go_simp; rfl)
              exact ⟨_, rfl, (by (try unfold Ov); repeat (first | with_reducible exact ex_over | with_reducible exact over_self _ | with_reducible refine ex_undrew ?_ | with_reducible refine ex_into ?_ _ | with_reducible refine ex_alloc ?_ _ | with_reducible refine ex_drew ?_ | ((with_reducible refine ex_setCell ?_ ?_ _); rotate_left; (first | omega | (focus (simp; done)) | (focus (simp; omega)))) | ((with_reducible refine ex_chg ?_ _ ?_); rotate_left; (first | assumption | (exact Hid.out (by assumption)))) | exact ex_over)), Own.mono (Own.over_swap ho3 (by first | exact Nat.le_refl _ | rfl | omega | (simp; done) | (simp; omega)) (by first | exact Nat.le_refl _ | rfl | omega | (simp; done) | (simp; omega))) (by first | exact Nat.le_refl _ | rfl | omega | (simp; done) | (simp; omega))⟩
    · have hw1 : 0 < (width : Int) := by omega
      have c' : ¬ (lead : Int) ≤ (L : Int) := by omega
      go_enter Tryd.func47, Tryd.ntmps47
      go_wp2
      go_loop [8] (fun i => ∃ (k : Nat), k ≤ L ∧ i = .int .i64 k) (fun i => (64 - intOf i).toNat)
      case atStart => exact ⟨0, Nat.zero_le _, rfl⟩
      case round =>
        obtain ⟨k, hk, rfl⟩ := hrel
        by_cases hlt : k < L
        · have hE := bit0_e hd (HZ.out k hlt)
          go_wp2
          go_round
          case rel => exact ⟨k + 1, by omega, by go_num⟩
          case measure => simp [intOf]; omega
        · obtain rfl : L = k := by omega
          have hE := bit1_e hd HZ1.out
          go_wp2
          clear hE
          go_loop [9] (fun i => ∃ (E : Nat), 64 - T ≤ E ∧ E ≤ 64 ∧ i = .int .i64 E) (fun i => (intOf i).toNat)
          case atStart => exact ⟨64, by omega, Nat.le_refl _, rfl⟩
          case round =>
            obtain ⟨E, hE1, hE2, rfl⟩ := hrel
            by_cases hlt2 : 64 - E < T
            · have hE := bit0_e hd (HT.out (64 - E) hlt2)
              go_wp2
              go_round
              case rel => exact ⟨E - 1, by omega, by omega, by go_num⟩
              case measure => simp [intOf]; omega
            · have hET : 64 - E = T := by omega
              have hE := bit1_e hd (show d.testBit (64 - E) = true by rw [hET]; exact HT1.out)
              clear hE1 hlt2 hlt hk
              have HET := hid hET
              clear hET
              have hSh := HSH.out E HET.out
              have hE9 : bits .and .u64 (D : Int) 1 = 1 := by rw [← hSh]; exact hE
              have hES : (E : Int) - ((L : Nat) : Int) = (S : Int) := HES.out E hE2 HET.out
              have HE2 : 64 ≤ E + T := by have := HET.out; omega
              have HE3 : E + T ≤ 64 := by have := HET.out; omega
              have HP5 : Hid (∀ (W : World) (lv : Value), OwnT (w.heap.size + 1 + 1) W lv [true, true] → Ov ((w.alloc (.cells #[.bool true, .int .u64  (v : Nat), .int .u8  (lead : Nat), .int .u8  (width : Nat)] 24)).alloc (.cells #[.bool false, .int .u64  0, .int .u8  0, .int .u8  0] 24)) W → Calls Tryd.prog 75 #[lv, .int .u64 ((L : Nat) : Int), .int .i64 5] W (PutL ((w.alloc (.cells #[.bool true, .int .u64  (v : Nat), .int .u8  (lead : Nat), .int .u8  (width : Nat)] 24)).alloc (.cells #[.bool false, .int .u64  0, .int .u8  0, .int .u8  0] 24)) (w.heap.size + 1 + 1) ([true, true] ++ num L 5))) :=
                hid (fun W lv h1 h2 => rput_i h1 h2 (by first | exact Nat.le_refl _ | rfl | omega | (simp; done) | (simp; omega)) (OwnT.base_le h1 (by simp)) (by simp) L 5 (by omega) (by omega) ((L : Nat) : Int) 5 rfl rfl)
              have HP6 : Hid (∀ (W : World) (lv : Value), OwnT (w.heap.size + 1 + 1) W lv ([true, true] ++ num L 5) → Ov ((w.alloc (.cells #[.bool true, .int .u64  (v : Nat), .int .u8  (lead : Nat), .int .u8  (width : Nat)] 24)).alloc (.cells #[.bool false, .int .u64  0, .int .u8  0, .int .u8  0] 24)) W → Calls Tryd.prog 75 #[lv, .int .u64 ((R : Nat) : Int), .int .i64 6] W (PutL ((w.alloc (.cells #[.bool true, .int .u64  (v : Nat), .int .u8  (lead : Nat), .int .u8  (width : Nat)] 24)).alloc (.cells #[.bool false, .int .u64  0, .int .u8  0, .int .u8  0] 24)) (w.heap.size + 1 + 1) ([true, true] ++ num L 5 ++ num R 6))) :=
                hid (fun W lv h1 h2 => rput_i h1 h2 (by first | exact Nat.le_refl _ | rfl | omega | (simp; done) | (simp; omega)) (OwnT.base_le h1 (by simp)) (by simp [num_length]) R 6 (by omega) (by omega) R 6 rfl rfl)
              have HP7 : Hid (∀ (W : World) (lv : Value), OwnT (w.heap.size + 1 + 1) W lv ([true, true] ++ num L 5 ++ num R 6) → Ov ((w.alloc (.cells #[.bool true, .int .u64  (v : Nat), .int .u8  (lead : Nat), .int .u8  (width : Nat)] 24)).alloc (.cells #[.bool false, .int .u64  0, .int .u8  0, .int .u8  0] 24)) W → Calls Tryd.prog 75 #[lv, .int .u64 ((D : Nat) : Int), .int .i64 ((S : Nat) : Int)] W (PutL ((w.alloc (.cells #[.bool true, .int .u64  (v : Nat), .int .u8  (lead : Nat), .int .u8  (width : Nat)] 24)).alloc (.cells #[.bool false, .int .u64  0, .int .u8  0, .int .u8  0] 24)) (w.heap.size + 1 + 1) WW)) :=
                hid (fun W lv h1 h2 => by rw [← HWW.out]; exact rput_any h1 h2 (by first | exact Nat.le_refl _ | rfl | omega | (simp; done) | (simp; omega)) (OwnT.base_le h1 (by simp)) (by simp [num_length]) D S (by omega) (by omega))
              skip
              go_wp2_with (first | (at_builtin; refine wpList_append byte_elem tcs_len tcs_one rfl (.tmp 95) (.tmp 96) rfl (B := (w.alloc (.cells #[.bool true, .int .u64  (v : Nat), .int .u8  (lead : Nat), .int .u8  (width : Nat)] 24)).alloc (.cells #[.bool false, .int .u64  0, .int .u8  0, .int .u8  0] 24)) (xs := [true, true]) (Own.nil (base := w.heap.size + 1 + 1) ((w.alloc (.cells #[.bool true, .int .u64  (v : Nat), .int .u8  (lead : Nat), .int .u8  (width : Nat)] 24)).alloc (.cells #[.bool false, .int .u64  0, .int .u8  0, .int .u8  0] 24))) rfl rfl (by (try unfold Ov); repeat (first | with_reducible exact ex_over | with_reducible exact over_self _ | with_reducible refine ex_undrew ?_ | with_reducible refine ex_into ?_ _ | with_reducible refine ex_alloc ?_ _ | with_reducible refine ex_drew ?_ | ((with_reducible refine ex_setCell ?_ ?_ _); rotate_left; (first | omega | (focus (simp; done)) | (focus (simp; omega)))) | ((with_reducible refine ex_chg ?_ _ ?_); rotate_left; (first | assumption | (exact Hid.out (by assumption)))) | exact ex_over)) (by (try unfold Ov); repeat (first | with_reducible exact ex_over | with_reducible exact over_self _ | with_reducible refine ex_undrew ?_ | with_reducible refine ex_into ?_ _ | with_reducible refine ex_alloc ?_ _ | with_reducible refine ex_drew ?_ | ((with_reducible refine ex_setCell ?_ ?_ _); rotate_left; (first | omega | (focus (simp; done)) | (focus (simp; omega)))) | ((with_reducible refine ex_chg ?_ _ ?_); rotate_left; (first | assumption | (exact Hid.out (by assumption)))) | exact ex_over)) (by first | assumption | (simp; done) | (simp; omega) | omega) (by first | assumption | (simp; done) | (simp; omega) | omega) (by (repeat with_reducible refine Sl.drew ?_); refine Sl.lit_as (xs := [true, true]) tcs_len ?_ ?_ ?_ ?_ <;> first | rfl | (simp; done) | (simp [maxLen]; done) | (simp; omega)) (by simp only [List.length_append, List.length_cons, List.length_nil]; unfold maxLen; omega) (by simp only [List.length_append, List.length_cons, List.length_nil]; omega) ?_; intro v' x' ho0 _ _; rw [List.nil_append] at ho0) | (go_at_call 75; (with_reducible refine (HP5.out _ _ (by repeat (first | with_reducible exact ho0 | ((with_reducible refine Own.set_ne ?_ ?_ _); rotate_left; (first | assumption | (focus (simp; done)) | (focus (simp [Value.ownBlock]; done)) | (focus (simp [Value.ownBlock]; omega)))) | ((with_reducible refine Own.in_some ?_ _ ?_); rotate_left; (first | assumption | (focus (simp; done)) | (focus (simp; omega)))) | ((with_reducible refine Own.in_one ?_ _ ?_); rotate_left; (first | assumption | (focus (simp [Value.ownBlock]; done)) | (focus (simp [Value.ownBlock]; omega)))) | ((with_reducible refine Own.chg ?_ (chg_chg _ _ _) ?_); rotate_left; (first | assumption | (focus (simp; done)) | (focus (simp; omega)))) | with_reducible refine Own.over ?_ _ | with_reducible refine Own.alloc ?_ _ | with_reducible refine Own.drew ?_ | exact ho0)) (by (try unfold Ov); repeat (first | with_reducible exact ex_over | with_reducible exact over_self _ | with_reducible refine ex_undrew ?_ | with_reducible refine ex_into ?_ _ | with_reducible refine ex_alloc ?_ _ | with_reducible refine ex_drew ?_ | ((with_reducible refine ex_setCell ?_ ?_ _); rotate_left; (first | omega | (focus (simp; done)) | (focus (simp; omega)))) | ((with_reducible refine ex_chg ?_ _ ?_); rotate_left; (first | assumption | (exact Hid.out (by assumption)))) | exact ex_over))).mono ?_); rintro _ _ ⟨⟨e1, rfl⟩, lv1, rfl, ho1⟩) | (go_at_call 75; (with_reducible refine (HP6.out _ _ (by repeat (first | with_reducible exact ho1 | ((with_reducible refine Own.set_ne ?_ ?_ _); rotate_left; (first | assumption | (focus (simp; done)) | (focus (simp [Value.ownBlock]; done)) | (focus (simp [Value.ownBlock]; omega)))) | ((with_reducible refine Own.in_some ?_ _ ?_); rotate_left; (first | assumption | (focus (simp; done)) | (focus (simp; omega)))) | ((with_reducible refine Own.in_one ?_ _ ?_); rotate_left; (first | assumption | (focus (simp [Value.ownBlock]; done)) | (focus (simp [Value.ownBlock]; omega)))) | ((with_reducible refine Own.chg ?_ (chg_chg _ _ _) ?_); rotate_left; (first | assumption | (focus (simp; done)) | (focus (simp; omega)))) | with_reducible refine Own.over ?_ _ | with_reducible refine Own.alloc ?_ _ | with_reducible refine Own.drew ?_ | exact ho1)) (by (try unfold Ov); repeat (first | with_reducible exact ex_over | with_reducible exact over_self _ | with_reducible refine ex_undrew ?_ | with_reducible refine ex_into ?_ _ | with_reducible refine ex_alloc ?_ _ | with_reducible refine ex_drew ?_ | ((with_reducible refine ex_setCell ?_ ?_ _); rotate_left; (first | omega | (focus (simp; done)) | (focus (simp; omega)))) | ((with_reducible refine ex_chg ?_ _ ?_); rotate_left; (first | assumption | (exact Hid.out (by assumption)))) | exact ex_over))).mono ?_); rintro _ _ ⟨⟨e2, rfl⟩, lv2, rfl, ho2⟩) | (go_at_call 75; (with_reducible refine (HP7.out _ _ (by repeat (first | with_reducible exact ho2 | ((with_reducible refine Own.set_ne ?_ ?_ _); rotate_left; (first | assumption | (focus (simp; done)) | (focus (simp [Value.ownBlock]; done)) | (focus (simp [Value.ownBlock]; omega)))) | ((with_reducible refine Own.in_some ?_ _ ?_); rotate_left; (first | assumption | (focus (simp; done)) | (focus (simp; omega)))) | ((with_reducible refine Own.in_one ?_ _ ?_); rotate_left; (first | assumption | (focus (simp [Value.ownBlock]; done)) | (focus (simp [Value.ownBlock]; omega)))) | ((with_reducible refine Own.chg ?_ (chg_chg _ _ _) ?_); rotate_left; (first | assumption | (focus (simp; done)) | (focus (simp; omega)))) | with_reducible refine Own.over ?_ _ | with_reducible refine Own.alloc ?_ _ | with_reducible refine Own.drew ?_ | exact ho2)) (by (try unfold Ov); repeat (first | with_reducible exact ex_over | with_reducible exact over_self _ | with_reducible refine ex_undrew ?_ | with_reducible refine ex_into ?_ _ | with_reducible refine ex_alloc ?_ _ | with_reducible refine ex_drew ?_ | ((with_reducible refine ex_setCell ?_ ?_ _); rotate_left; (first | omega | (focus (simp; done)) | (focus (simp; omega)))) | ((with_reducible refine ex_chg ?_ _ ?_); rotate_left; (first | assumption | (exact Hid.out (by assumption)))) | exact ex_over))).mono ?_); rintro _ _ ⟨⟨e3, rfl⟩, lv3, rfl, ho3⟩))
              refine M2.wp_region_mix [3] 3 (by kernel_rfl) (by kernel_rfl) (by decide) ?_
              simp only [List.take_succ_cons, List.take_zero, List.drop_succ_cons, List.drop_zero]
              with_reducible refine M2.mixL_quiet 3 (by kernel_rfl) ?_
              simp only [List.take_succ_cons, List.take_zero, List.drop_succ_cons, List.drop_zero]
              repeat (go_big_quiet_step (fail))
              with_reducible refine wpQuiet_nil ?_
              with_reducible refine M2.mixL_nil ?_
              with_reducible refine M2.mixL_eff (by decide) ?_
              go_wp2_with (fail)
              refine M2.MixQ.mk trivial ?_
              with_reducible refine M2.mixL_nil ?_
              go_wp2
              (try simp only [Exit.inBlock, Exit.then])
              refine bodyPost_ret (v := ?rv68) ?rh68 rfl ?rp68
              case rh68 => (simp only [results, show Tryd.f47.results = #[.tmp 4, .cell 5 24] from rfl]; go_simp; rfl)
              exact ⟨_, rfl, (by (try unfold Ov); repeat (first | with_reducible exact ex_over | with_reducible exact over_self _ | with_reducible refine ex_undrew ?_ | with_reducible refine ex_into ?_ _ | with_reducible refine ex_alloc ?_ _ | with_reducible refine ex_drew ?_ | ((with_reducible refine ex_setCell ?_ ?_ _); rotate_left; (first | omega | (focus (simp; done)) | (focus (simp; omega)))) | ((with_reducible refine ex_chg ?_ _ ?_); rotate_left; (first | assumption | (exact Hid.out (by assumption)))) | exact ex_over)), Own.mono (Own.over_swap ho3 (by first | exact Nat.le_refl _ | rfl | omega | (simp; done) | (simp; omega)) (by first | exact Nat.le_refl _ | rfl | omega | (simp; done) | (simp; omega))) (by first | exact Nat.le_refl _ | rfl | omega | (simp; done) | (simp; omega))⟩
    · have hw1 : 0 < (width : Int) := by omega
      have c' : (lead : Int) ≤ (L : Int) := by omega
      go_enter Tryd.func47, Tryd.ntmps47
      go_wp2
      go_loop [8] (fun i => ∃ (k : Nat), k ≤ L ∧ i = .int .i64 k) (fun i => (64 - intOf i).toNat)
      case atStart => exact ⟨0, Nat.zero_le _, rfl⟩
      case round =>
        obtain ⟨k, hk, rfl⟩ := hrel
        by_cases hlt : k < L
        · have hE := bit0_e hd (HZ.out k hlt)
          go_wp2
          go_round
          case rel => exact ⟨k + 1, by omega, by go_num⟩
          case measure => simp [intOf]; omega
        · obtain rfl : L = k := by omega
          have hE := bit1_e hd HZ1.out
          go_wp2
          clear hE
          go_loop [9] (fun i => ∃ (E : Nat), 64 - T ≤ E ∧ E ≤ 64 ∧ i = .int .i64 E) (fun i => (intOf i).toNat)
          case atStart => exact ⟨64, by omega, Nat.le_refl _, rfl⟩
          case round =>
            obtain ⟨E, hE1, hE2, rfl⟩ := hrel
            by_cases hlt2 : 64 - E < T
            · have hE := bit0_e hd (HT.out (64 - E) hlt2)
              go_wp2
              go_round
              case rel => exact ⟨E - 1, by omega, by omega, by go_num⟩
              case measure => simp [intOf]; omega
            · have hET : 64 - E = T := by omega
              have hE := bit1_e hd (show d.testBit (64 - E) = true by rw [hET]; exact HT1.out)
              clear hE1 hlt2 hlt hk
              have HET := hid hET
              clear hET
              have hSh := HSH.out E HET.out
              have hE9 : bits .and .u64 (D : Int) 1 = 1 := by rw [← hSh]; exact hE
              have hES : (E : Int) - ((L : Nat) : Int) = (S : Int) := HES.out E hE2 HET.out
              have HE2 : 64 ≤ E + T := by have := HET.out; omega
              have HE3 : E + T ≤ 64 := by have := HET.out; omega
              have HP5 : Hid (∀ (W : World) (lv : Value), OwnT (w.heap.size + 1 + 1) W lv [true, true] → Ov ((w.alloc (.cells #[.bool true, .int .u64  (v : Nat), .int .u8  (lead : Nat), .int .u8  (width : Nat)] 24)).alloc (.cells #[.bool false, .int .u64  0, .int .u8  0, .int .u8  0] 24)) W → Calls Tryd.prog 75 #[lv, .int .u64 ((L : Nat) : Int), .int .i64 5] W (PutL ((w.alloc (.cells #[.bool true, .int .u64  (v : Nat), .int .u8  (lead : Nat), .int .u8  (width : Nat)] 24)).alloc (.cells #[.bool false, .int .u64  0, .int .u8  0, .int .u8  0] 24)) (w.heap.size + 1 + 1) ([true, true] ++ num L 5))) :=
                hid (fun W lv h1 h2 => rput_i h1 h2 (by first | exact Nat.le_refl _ | rfl | omega | (simp; done) | (simp; omega)) (OwnT.base_le h1 (by simp)) (by simp) L 5 (by omega) (by omega) ((L : Nat) : Int) 5 rfl rfl)
              have HP6 : Hid (∀ (W : World) (lv : Value), OwnT (w.heap.size + 1 + 1) W lv ([true, true] ++ num L 5) → Ov ((w.alloc (.cells #[.bool true, .int .u64  (v : Nat), .int .u8  (lead : Nat), .int .u8  (width : Nat)] 24)).alloc (.cells #[.bool false, .int .u64  0, .int .u8  0, .int .u8  0] 24)) W → Calls Tryd.prog 75 #[lv, .int .u64 ((R : Nat) : Int), .int .i64 6] W (PutL ((w.alloc (.cells #[.bool true, .int .u64  (v : Nat), .int .u8  (lead : Nat), .int .u8  (width : Nat)] 24)).alloc (.cells #[.bool false, .int .u64  0, .int .u8  0, .int .u8  0] 24)) (w.heap.size + 1 + 1) ([true, true] ++ num L 5 ++ num R 6))) :=
                hid (fun W lv h1 h2 => rput_i h1 h2 (by first | exact Nat.le_refl _ | rfl | omega | (simp; done) | (simp; omega)) (OwnT.base_le h1 (by simp)) (by simp [num_length]) R 6 (by omega) (by omega) R 6 rfl rfl)
              have HP7 : Hid (∀ (W : World) (lv : Value), OwnT (w.heap.size + 1 + 1) W lv ([true, true] ++ num L 5 ++ num R 6) → Ov ((w.alloc (.cells #[.bool true, .int .u64  (v : Nat), .int .u8  (lead : Nat), .int .u8  (width : Nat)] 24)).alloc (.cells #[.bool false, .int .u64  0, .int .u8  0, .int .u8  0] 24)) W → Calls Tryd.prog 75 #[lv, .int .u64 ((D : Nat) : Int), .int .i64 ((S : Nat) : Int)] W (PutL ((w.alloc (.cells #[.bool true, .int .u64  (v : Nat), .int .u8  (lead : Nat), .int .u8  (width : Nat)] 24)).alloc (.cells #[.bool false, .int .u64  0, .int .u8  0, .int .u8  0] 24)) (w.heap.size + 1 + 1) WW)) :=
                hid (fun W lv h1 h2 => by rw [← HWW.out]; exact rput_any h1 h2 (by first | exact Nat.le_refl _ | rfl | omega | (simp; done) | (simp; omega)) (OwnT.base_le h1 (by simp)) (by simp [num_length]) D S (by omega) (by omega))
              have c9 : ¬ (E : Int) ≤ (lead : Int) + (width : Int) := by omega
              go_wp2_with (first | (at_builtin; refine wpList_append byte_elem tcs_len tcs_one rfl (.tmp 95) (.tmp 96) rfl (B := (w.alloc (.cells #[.bool true, .int .u64  (v : Nat), .int .u8  (lead : Nat), .int .u8  (width : Nat)] 24)).alloc (.cells #[.bool false, .int .u64  0, .int .u8  0, .int .u8  0] 24)) (xs := [true, true]) (Own.nil (base := w.heap.size + 1 + 1) ((w.alloc (.cells #[.bool true, .int .u64  (v : Nat), .int .u8  (lead : Nat), .int .u8  (width : Nat)] 24)).alloc (.cells #[.bool false, .int .u64  0, .int .u8  0, .int .u8  0] 24))) rfl rfl (by (try unfold Ov); repeat (first | with_reducible exact ex_over | with_reducible exact over_self _ | with_reducible refine ex_undrew ?_ | with_reducible refine ex_into ?_ _ | with_reducible refine ex_alloc ?_ _ | with_reducible refine ex_drew ?_ | ((with_reducible refine ex_setCell ?_ ?_ _); rotate_left; (first | omega | (focus (simp; done)) | (focus (simp; omega)))) | ((with_reducible refine ex_chg ?_ _ ?_); rotate_left; (first | assumption | (exact Hid.out (by assumption)))) | exact ex_over)) (by (try unfold Ov); repeat (first | with_reducible exact ex_over | with_reducible exact over_self _ | with_reducible refine ex_undrew ?_ | with_reducible refine ex_into ?_ _ | with_reducible refine ex_alloc ?_ _ | with_reducible refine ex_drew ?_ | ((with_reducible refine ex_setCell ?_ ?_ _); rotate_left; (first | omega | (focus (simp; done)) | (focus (simp; omega)))) | ((with_reducible refine ex_chg ?_ _ ?_); rotate_left; (first | assumption | (exact Hid.out (by assumption)))) | exact ex_over)) (by first | assumption | (simp; done) | (simp; omega) | omega) (by first | assumption | (simp; done) | (simp; omega) | omega) (by (repeat with_reducible refine Sl.drew ?_); refine Sl.lit_as (xs := [true, true]) tcs_len ?_ ?_ ?_ ?_ <;> first | rfl | (simp; done) | (simp [maxLen]; done) | (simp; omega)) (by simp only [List.length_append, List.length_cons, List.length_nil]; unfold maxLen; omega) (by simp only [List.length_append, List.length_cons, List.length_nil]; omega) ?_; intro v' x' ho0 _ _; rw [List.nil_append] at ho0) | (go_at_call 75; (with_reducible refine (HP5.out _ _ (by repeat (first | with_reducible exact ho0 | ((with_reducible refine Own.set_ne ?_ ?_ _); rotate_left; (first | assumption | (focus (simp; done)) | (focus (simp [Value.ownBlock]; done)) | (focus (simp [Value.ownBlock]; omega)))) | ((with_reducible refine Own.in_some ?_ _ ?_); rotate_left; (first | assumption | (focus (simp; done)) | (focus (simp; omega)))) | ((with_reducible refine Own.in_one ?_ _ ?_); rotate_left; (first | assumption | (focus (simp [Value.ownBlock]; done)) | (focus (simp [Value.ownBlock]; omega)))) | ((with_reducible refine Own.chg ?_ (chg_chg _ _ _) ?_); rotate_left; (first | assumption | (focus (simp; done)) | (focus (simp; omega)))) | with_reducible refine Own.over ?_ _ | with_reducible refine Own.alloc ?_ _ | with_reducible refine Own.drew ?_ | exact ho0)) (by (try unfold Ov); repeat (first | with_reducible exact ex_over | with_reducible exact over_self _ | with_reducible refine ex_undrew ?_ | with_reducible refine ex_into ?_ _ | with_reducible refine ex_alloc ?_ _ | with_reducible refine ex_drew ?_ | ((with_reducible refine ex_setCell ?_ ?_ _); rotate_left; (first | omega | (focus (simp; done)) | (focus (simp; omega)))) | ((with_reducible refine ex_chg ?_ _ ?_); rotate_left; (first | assumption | (exact Hid.out (by assumption)))) | exact ex_over))).mono ?_); rintro _ _ ⟨⟨e1, rfl⟩, lv1, rfl, ho1⟩) | (go_at_call 75; (with_reducible refine (HP6.out _ _ (by repeat (first | with_reducible exact ho1 | ((with_reducible refine Own.set_ne ?_ ?_ _); rotate_left; (first | assumption | (focus (simp; done)) | (focus (simp [Value.ownBlock]; done)) | (focus (simp [Value.ownBlock]; omega)))) | ((with_reducible refine Own.in_some ?_ _ ?_); rotate_left; (first | assumption | (focus (simp; done)) | (focus (simp; omega)))) | ((with_reducible refine Own.in_one ?_ _ ?_); rotate_left; (first | assumption | (focus (simp [Value.ownBlock]; done)) | (focus (simp [Value.ownBlock]; omega)))) | ((with_reducible refine Own.chg ?_ (chg_chg _ _ _) ?_); rotate_left; (first | assumption | (focus (simp; done)) | (focus (simp; omega)))) | with_reducible refine Own.over ?_ _ | with_reducible refine Own.alloc ?_ _ | with_reducible refine Own.drew ?_ | exact ho1)) (by (try unfold Ov); repeat (first | with_reducible exact ex_over | with_reducible exact over_self _ | with_reducible refine ex_undrew ?_ | with_reducible refine ex_into ?_ _ | with_reducible refine ex_alloc ?_ _ | with_reducible refine ex_drew ?_ | ((with_reducible refine ex_setCell ?_ ?_ _); rotate_left; (first | omega | (focus (simp; done)) | (focus (simp; omega)))) | ((with_reducible refine ex_chg ?_ _ ?_); rotate_left; (first | assumption | (exact Hid.out (by assumption)))) | exact ex_over))).mono ?_); rintro _ _ ⟨⟨e2, rfl⟩, lv2, rfl, ho2⟩) | (go_at_call 75; (with_reducible refine (HP7.out _ _ (by repeat (first | with_reducible exact ho2 | ((with_reducible refine Own.set_ne ?_ ?_ _); rotate_left; (first | assumption | (focus (simp; done)) | (focus (simp [Value.ownBlock]; done)) | (focus (simp [Value.ownBlock]; omega)))) | ((with_reducible refine Own.in_some ?_ _ ?_); rotate_left; (first | assumption | (focus (simp; done)) | (focus (simp; omega)))) | ((with_reducible refine Own.in_one ?_ _ ?_); rotate_left; (first | assumption | (focus (simp [Value.ownBlock]; done)) | (focus (simp [Value.ownBlock]; omega)))) | ((with_reducible refine Own.chg ?_ (chg_chg _ _ _) ?_); rotate_left; (first | assumption | (focus (simp; done)) | (focus (simp; omega)))) | with_reducible refine Own.over ?_ _ | with_reducible refine Own.alloc ?_ _ | with_reducible refine Own.drew ?_ | exact ho2)) (by (try unfold Ov); repeat (first | with_reducible exact ex_over | with_reducible exact over_self _ | with_reducible refine ex_undrew ?_ | with_reducible refine ex_into ?_ _ | with_reducible refine ex_alloc ?_ _ | with_reducible refine ex_drew ?_ | ((with_reducible refine ex_setCell ?_ ?_ _); rotate_left; (first | omega | (focus (simp; done)) | (focus (simp; omega)))) | ((with_reducible refine ex_chg ?_ _ ?_); rotate_left; (first | assumption | (exact Hid.out (by assumption)))) | exact ex_over))).mono ?_); rintro _ _ ⟨⟨e3, rfl⟩, lv3, rfl, ho3⟩))
              refine M2.wp_region_mix [3] 3 (by kernel_rfl) (by kernel_rfl) (by decide) ?_
              simp only [List.take_succ_cons, List.take_zero, List.drop_succ_cons, List.drop_zero]
              with_reducible refine M2.mixL_quiet 3 (by kernel_rfl) ?_
              simp only [List.take_succ_cons, List.take_zero, List.drop_succ_cons, List.drop_zero]
              repeat (go_big_quiet_step (fail))
              with_reducible refine wpQuiet_nil ?_
              with_reducible refine M2.mixL_nil ?_
              with_reducible refine M2.mixL_eff (by decide) ?_
              go_wp2_with (fail)
              refine M2.MixQ.mk trivial ?_
              with_reducible refine M2.mixL_nil ?_
              go_wp2
              (try simp only [Exit.inBlock, Exit.then])
              refine bodyPost_ret (v := ?rv69) ?rh69 rfl ?rp69
              case rh69 => (simp only [results, show Tryd.f47.results = #[.tmp 4, .cell 5 24] from rfl]; go_simp; rfl)
              exact ⟨_, rfl, (by (try unfold Ov); repeat (first | with_reducible exact ex_over | with_reducible exact over_self _ | with_reducible refine ex_undrew ?_ | with_reducible refine ex_into ?_ _ | with_reducible refine ex_alloc ?_ _ | with_reducible refine ex_drew ?_ | ((with_reducible refine ex_setCell ?_ ?_ _); rotate_left; (first | omega | (focus (simp; done)) | (focus (simp; omega)))) | ((with_reducible refine ex_chg ?_ _ ?_); rotate_left; (first | assumption | (exact Hid.out (by assumption)))) | exact ex_over)), Own.mono (Own.over_swap ho3 (by first | exact Nat.le_refl _ | rfl | omega | (simp; done) | (simp; omega)) (by first | exact Nat.le_refl _ | rfl | omega | (simp; done) | (simp; omega))) (by first | exact Nat.le_refl _ | rfl | omega | (simp; done) | (simp; omega))⟩
  · obtain rfl : L = 31 := by rw [HAL.out]; omega
    have h31' : (31 : Int) < (Z : Int) := by omega
    have hmin : min (Z : Int) 31 = 31 := by omega
    rcases hcs with c | ⟨hw0, c⟩ | ⟨hw0, hlz0, c⟩
    · have c' : ¬ 0 < (width : Int) := by omega
      go_enter Tryd.func47, Tryd.ntmps47
      go_wp2
      go_loop [8] (fun i => ∃ (k : Nat), k ≤ Z ∧ i = .int .i64 k) (fun i => (64 - intOf i).toNat)
      case atStart => exact ⟨0, Nat.zero_le _, rfl⟩
      case round =>
        obtain ⟨k, hk, rfl⟩ := hrel
        by_cases hlt : k < Z
        · have hE := bit0_e hd (HZ.out k hlt)
          go_wp2
          go_round
          case rel => exact ⟨k + 1, by omega, by go_num⟩
          case measure => simp [intOf]; omega
        · obtain rfl : Z = k := by omega
          have hE := bit1_e hd HZ1.out
          go_wp2
          clear hE
          go_loop [9] (fun i => ∃ (E : Nat), 64 - T ≤ E ∧ E ≤ 64 ∧ i = .int .i64 E) (fun i => (intOf i).toNat)
          case atStart => exact ⟨64, by omega, Nat.le_refl _, rfl⟩
          case round =>
            obtain ⟨E, hE1, hE2, rfl⟩ := hrel
            by_cases hlt2 : 64 - E < T
            · have hE := bit0_e hd (HT.out (64 - E) hlt2)
              go_wp2
              go_round
              case rel => exact ⟨E - 1, by omega, by omega, by go_num⟩
              case measure => simp [intOf]; omega
            · have hET : 64 - E = T := by omega
              have hE := bit1_e hd (show d.testBit (64 - E) = true by rw [hET]; exact HT1.out)
              clear hE1 hlt2 hlt hk
              have HET := hid hET
              clear hET
              have hSh := HSH.out E HET.out
              have hE9 : bits .and .u64 (D : Int) 1 = 1 := by rw [← hSh]; exact hE
              have hES : (E : Int) - 31 = (S : Int) := HES.out E hE2 HET.out
              have HE2 : 64 ≤ E + T := by have := HET.out; omega
              have HE3 : E + T ≤ 64 := by have := HET.out; omega
              have HP5 : Hid (∀ (W : World) (lv : Value), OwnT (w.heap.size + 1 + 1) W lv [true, true] → Ov ((w.alloc (.cells #[.bool true, .int .u64  (v : Nat), .int .u8  (lead : Nat), .int .u8  (width : Nat)] 24)).alloc (.cells #[.bool false, .int .u64  0, .int .u8  0, .int .u8  0] 24)) W → Calls Tryd.prog 75 #[lv, .int .u64 31, .int .i64 5] W (PutL ((w.alloc (.cells #[.bool true, .int .u64  (v : Nat), .int .u8  (lead : Nat), .int .u8  (width : Nat)] 24)).alloc (.cells #[.bool false, .int .u64  0, .int .u8  0, .int .u8  0] 24)) (w.heap.size + 1 + 1) ([true, true] ++ num 31 5))) :=
                hid (fun W lv h1 h2 => rput_i h1 h2 (by first | exact Nat.le_refl _ | rfl | omega | (simp; done) | (simp; omega)) (OwnT.base_le h1 (by simp)) (by simp) 31 5 (by omega) (by omega) 31 5 rfl rfl)
              have HP6 : Hid (∀ (W : World) (lv : Value), OwnT (w.heap.size + 1 + 1) W lv ([true, true] ++ num 31 5) → Ov ((w.alloc (.cells #[.bool true, .int .u64  (v : Nat), .int .u8  (lead : Nat), .int .u8  (width : Nat)] 24)).alloc (.cells #[.bool false, .int .u64  0, .int .u8  0, .int .u8  0] 24)) W → Calls Tryd.prog 75 #[lv, .int .u64 ((R : Nat) : Int), .int .i64 6] W (PutL ((w.alloc (.cells #[.bool true, .int .u64  (v : Nat), .int .u8  (lead : Nat), .int .u8  (width : Nat)] 24)).alloc (.cells #[.bool false, .int .u64  0, .int .u8  0, .int .u8  0] 24)) (w.heap.size + 1 + 1) ([true, true] ++ num 31 5 ++ num R 6))) :=
                hid (fun W lv h1 h2 => rput_i h1 h2 (by first | exact Nat.le_refl _ | rfl | omega | (simp; done) | (simp; omega)) (OwnT.base_le h1 (by simp)) (by simp [num_length]) R 6 (by omega) (by omega) R 6 rfl rfl)
              have HP7 : Hid (∀ (W : World) (lv : Value), OwnT (w.heap.size + 1 + 1) W lv ([true, true] ++ num 31 5 ++ num R 6) → Ov ((w.alloc (.cells #[.bool true, .int .u64  (v : Nat), .int .u8  (lead : Nat), .int .u8  (width : Nat)] 24)).alloc (.cells #[.bool false, .int .u64  0, .int .u8  0, .int .u8  0] 24)) W → Calls Tryd.prog 75 #[lv, .int .u64 ((D : Nat) : Int), .int .i64 ((S : Nat) : Int)] W (PutL ((w.alloc (.cells #[.bool true, .int .u64  (v : Nat), .int .u8  (lead : Nat), .int .u8  (width : Nat)] 24)).alloc (.cells #[.bool false, .int .u64  0, .int .u8  0, .int .u8  0] 24)) (w.heap.size + 1 + 1) WW)) :=
                hid (fun W lv h1 h2 => by rw [← HWW.out]; exact rput_any h1 h2 (by first | exact Nat.le_refl _ | rfl | omega | (simp; done) | (simp; omega)) (OwnT.base_le h1 (by simp)) (by simp [num_length]) D S (by omega) (by omega))
              skip
              go_wp2_with (first | (at_builtin; refine wpList_append byte_elem tcs_len tcs_one rfl (.tmp 95) (.tmp 96) rfl (B := (w.alloc (.cells #[.bool true, .int .u64  (v : Nat), .int .u8  (lead : Nat), .int .u8  (width : Nat)] 24)).alloc (.cells #[.bool false, .int .u64  0, .int .u8  0, .int .u8  0] 24)) (xs := [true, true]) (Own.nil (base := w.heap.size + 1 + 1) ((w.alloc (.cells #[.bool true, .int .u64  (v : Nat), .int .u8  (lead : Nat), .int .u8  (width : Nat)] 24)).alloc (.cells #[.bool false, .int .u64  0, .int .u8  0, .int .u8  0] 24))) rfl rfl (by (try unfold Ov); repeat (first | with_reducible exact ex_over | with_reducible exact over_self _ | with_reducible refine ex_undrew ?_ | with_reducible refine ex_into ?_ _ | with_reducible refine ex_alloc ?_ _ | with_reducible refine ex_drew ?_ | ((with_reducible refine ex_setCell ?_ ?_ _); rotate_left; (first | omega | (focus (simp; done)) | (focus (simp; omega)))) | ((with_reducible refine ex_chg ?_ _ ?_); rotate_left; (first | assumption | (exact Hid.out (by assumption)))) | exact ex_over)) (by (try unfold Ov); repeat (first | with_reducible exact ex_over | with_reducible exact over_self _ | with_reducible refine ex_undrew ?_ | with_reducible refine ex_into ?_ _ | with_reducible refine ex_alloc ?_ _ | with_reducible refine ex_drew ?_ | ((with_reducible refine ex_setCell ?_ ?_ _); rotate_left; (first | omega | (focus (simp; done)) | (focus (simp; omega)))) | ((with_reducible refine ex_chg ?_ _ ?_); rotate_left; (first | assumption | (exact Hid.out (by assumption)))) | exact ex_over)) (by first | assumption | (simp; done) | (simp; omega) | omega) (by first | assumption | (simp; done) | (simp; omega) | omega) (by (repeat with_reducible refine Sl.drew ?_); refine Sl.lit_as (xs := [true, true]) tcs_len ?_ ?_ ?_ ?_ <;> first | rfl | (simp; done) | (simp [maxLen]; done) | (simp; omega)) (by simp only [List.length_append, List.length_cons, List.length_nil]; unfold maxLen; omega) (by simp only [List.length_append, List.length_cons, List.length_nil]; omega) ?_; intro v' x' ho0 _ _; rw [List.nil_append] at ho0) | (go_at_call 75; (with_reducible refine (HP5.out _ _ (by repeat (first | with_reducible exact ho0 | ((with_reducible refine Own.set_ne ?_ ?_ _); rotate_left; (first | assumption | (focus (simp; done)) | (focus (simp [Value.ownBlock]; done)) | (focus (simp [Value.ownBlock]; omega)))) | ((with_reducible refine Own.in_some ?_ _ ?_); rotate_left; (first | assumption | (focus (simp; done)) | (focus (simp; omega)))) | ((with_reducible refine Own.in_one ?_ _ ?_); rotate_left; (first | assumption | (focus (simp [Value.ownBlock]; done)) | (focus (simp [Value.ownBlock]; omega)))) | ((with_reducible refine Own.chg ?_ (chg_chg _ _ _) ?_); rotate_left; (first | assumption | (focus (simp; done)) | (focus (simp; omega)))) | with_reducible refine Own.over ?_ _ | with_reducible refine Own.alloc ?_ _ | with_reducible refine Own.drew ?_ | exact ho0)) (by (try unfold Ov); repeat (first | with_reducible exact ex_over | with_reducible exact over_self _ | with_reducible refine ex_undrew ?_ | with_reducible refine ex_into ?_ _ | with_reducible refine ex_alloc ?_ _ | with_reducible refine ex_drew ?_ | ((with_reducible refine ex_setCell ?_ ?_ _); rotate_left; (first | omega | (focus (simp; done)) | (focus (simp; omega)))) | ((with_reducible refine ex_chg ?_ _ ?_); rotate_left; (first | assumption | (exact Hid.out (by assumption)))) | exact ex_over))).mono ?_); rintro _ _ ⟨⟨e1, rfl⟩, lv1, rfl, ho1⟩) | (go_at_call 75; (with_reducible refine (HP6.out _ _ (by repeat (first | with_reducible exact ho1 | ((with_reducible refine Own.set_ne ?_ ?_ _); rotate_left; (first | assumption | (focus (simp; done)) | (focus (simp [Value.ownBlock]; done)) | (focus (simp [Value.ownBlock]; omega)))) | ((with_reducible refine Own.in_some ?_ _ ?_); rotate_left; (first | assumption | (focus (simp; done)) | (focus (simp; omega)))) | ((with_reducible refine Own.in_one ?_ _ ?_); rotate_left; (first | assumption | (focus (simp [Value.ownBlock]; done)) | (focus (simp [Value.ownBlock]; omega)))) | ((with_reducible refine Own.chg ?_ (chg_chg _ _ _) ?_); rotate_left; (first | assumption | (focus (simp; done)) | (focus (simp; omega)))) | with_reducible refine Own.over ?_ _ | with_reducible refine Own.alloc ?_ _ | with_reducible refine Own.drew ?_ | exact ho1)) (by (try unfold Ov); repeat (first | with_reducible exact ex_over | with_reducible exact over_self _ | with_reducible refine ex_undrew ?_ | with_reducible refine ex_into ?_ _ | with_reducible refine ex_alloc ?_ _ | with_reducible refine ex_drew ?_ | ((with_reducible refine ex_setCell ?_ ?_ _); rotate_left; (first | omega | (focus (simp; done)) | (focus (simp; omega)))) | ((with_reducible refine ex_chg ?_ _ ?_); rotate_left; (first | assumption | (exact Hid.out (by assumption)))) | exact ex_over))).mono ?_); rintro _ _ ⟨⟨e2, rfl⟩, lv2, rfl, ho2⟩) | (go_at_call 75; (with_reducible refine (HP7.out _ _ (by repeat (first | with_reducible exact ho2 | ((with_reducible refine Own.set_ne ?_ ?_ _); rotate_left; (first | assumption | (focus (simp; done)) | (focus (simp [Value.ownBlock]; done)) | (focus (simp [Value.ownBlock]; omega)))) | ((with_reducible refine Own.in_some ?_ _ ?_); rotate_left; (first | assumption | (focus (simp; done)) | (focus (simp; omega)))) | ((with_reducible refine Own.in_one ?_ _ ?_); rotate_left; (first | assumption | (focus (simp [Value.ownBlock]; done)) | (focus (simp [Value.ownBlock]; omega)))) | ((with_reducible refine Own.chg ?_ (chg_chg _ _ _) ?_); rotate_left; (first | assumption | (focus (simp; done)) | (focus (simp; omega)))) | with_reducible refine Own.over ?_ _ | with_reducible refine Own.alloc ?_ _ | with_reducible refine Own.drew ?_ | exact ho2)) (by (try unfold Ov); repeat (first | with_reducible exact ex_over | with_reducible exact over_self _ | with_reducible refine ex_undrew ?_ | with_reducible refine ex_into ?_ _ | with_reducible refine ex_alloc ?_ _ | with_reducible refine ex_drew ?_ | ((with_reducible refine ex_setCell ?_ ?_ _); rotate_left; (first | omega | (focus (simp; done)) | (focus (simp; omega)))) | ((with_reducible refine ex_chg ?_ _ ?_); rotate_left; (first | assumption | (exact Hid.out (by assumption)))) | exact ex_over))).mono ?_); rintro _ _ ⟨⟨e3, rfl⟩, lv3, rfl, ho3⟩))
              refine M2.wp_region_mix [3] 3 (by kernel_rfl) (by kernel_rfl) (by decide) ?_
              simp only [List.take_succ_cons, List.take_zero, List.drop_succ_cons, List.drop_zero]
              with_reducible refine M2.mixL_quiet 3 (by kernel_rfl) ?_
              simp only [List.take_succ_cons, List.take_zero, List.drop_succ_cons, List.drop_zero]
              repeat (go_big_quiet_step (fail))
              with_reducible refine wpQuiet_nil ?_
              with_reducible refine M2.mixL_nil ?_
              with_reducible refine M2.mixL_eff (by decide) ?_
              go_wp2_with (fail)
              refine M2.MixQ.mk trivial ?_
              with_reducible refine M2.mixL_nil ?_
              go_wp2
              (try simp only [Exit.inBlock, Exit.then])
              refine bodyPost_ret (v := ?rv70) ?rh70 rfl ?rp70
              case rh70 => (simp only [results, show Tryd.f47.results = #[.tmp 4, .cell 5 24] from rfl]; go_simp; rfl)
              exact ⟨_, rfl, (by (try unfold Ov); repeat (first | with_reducible exact ex_over | with_reducible exact over_self _ | with_reducible refine ex_undrew ?_ | with_reducible refine ex_into ?_ _ | with_reducible refine ex_alloc ?_ _ | with_reducible refine ex_drew ?_ | ((with_reducible refine ex_setCell ?_ ?_ _); rotate_left; (first | omega | (focus (simp; done)) | (focus (simp; omega)))) | ((with_reducible refine ex_chg ?_ _ ?_); rotate_left; (first | assumption | (exact Hid.out (by assumption)))) | exact ex_over)), Own.mono (Own.over_swap ho3 (by first | exact Nat.le_refl _ | rfl | omega | (simp; done) | (simp; omega)) (by first | exact Nat.le_refl _ | rfl | omega | (simp; done) | (simp; omega))) (by first | exact Nat.le_refl _ | rfl | omega | (simp; done) | (simp; omega))⟩
    · have hw1 : 0 < (width : Int) := by omega
      have c' : ¬ (lead : Int) ≤ (Z : Int) := by omega
      go_enter Tryd.func47, Tryd.ntmps47
      go_wp2
      go_loop [8] (fun i => ∃ (k : Nat), k ≤ Z ∧ i = .int .i64 k) (fun i => (64 - intOf i).toNat)
      case atStart => exact ⟨0, Nat.zero_le _, rfl⟩
      case round =>
        obtain ⟨k, hk, rfl⟩ := hrel
        by_cases hlt : k < Z
        · have hE := bit0_e hd (HZ.out k hlt)
          go_wp2
          go_round
          case rel => exact ⟨k + 1, by omega, by go_num⟩
          case measure => simp [intOf]; omega
        · obtain rfl : Z = k := by omega
          have hE := bit1_e hd HZ1.out
          go_wp2
          clear hE
          go_loop [9] (fun i => ∃ (E : Nat), 64 - T ≤ E ∧ E ≤ 64 ∧ i = .int .i64 E) (fun i => (intOf i).toNat)
          case atStart => exact ⟨64, by omega, Nat.le_refl _, rfl⟩
          case round =>
            obtain ⟨E, hE1, hE2, rfl⟩ := hrel
            by_cases hlt2 : 64 - E < T
            · have hE := bit0_e hd (HT.out (64 - E) hlt2)
              go_wp2
              go_round
              case rel => exact ⟨E - 1, by omega, by omega, by go_num⟩
              case measure => simp [intOf]; omega
            · have hET : 64 - E = T := by omega
              have hE := bit1_e hd (show d.testBit (64 - E) = true by rw [hET]; exact HT1.out)
              clear hE1 hlt2 hlt hk
              have HET := hid hET
              clear hET
              have hSh := HSH.out E HET.out
              have hE9 : bits .and .u64 (D : Int) 1 = 1 := by rw [← hSh]; exact hE
              have hES : (E : Int) - 31 = (S : Int) := HES.out E hE2 HET.out
              have HE2 : 64 ≤ E + T := by have := HET.out; omega
              have HE3 : E + T ≤ 64 := by have := HET.out; omega
              have HP5 : Hid (∀ (W : World) (lv : Value), OwnT (w.heap.size + 1 + 1) W lv [true, true] → Ov ((w.alloc (.cells #[.bool true, .int .u64  (v : Nat), .int .u8  (lead : Nat), .int .u8  (width : Nat)] 24)).alloc (.cells #[.bool false, .int .u64  0, .int .u8  0, .int .u8  0] 24)) W → Calls Tryd.prog 75 #[lv, .int .u64 31, .int .i64 5] W (PutL ((w.alloc (.cells #[.bool true, .int .u64  (v : Nat), .int .u8  (lead : Nat), .int .u8  (width : Nat)] 24)).alloc (.cells #[.bool false, .int .u64  0, .int .u8  0, .int .u8  0] 24)) (w.heap.size + 1 + 1) ([true, true] ++ num 31 5))) :=
                hid (fun W lv h1 h2 => rput_i h1 h2 (by first | exact Nat.le_refl _ | rfl | omega | (simp; done) | (simp; omega)) (OwnT.base_le h1 (by simp)) (by simp) 31 5 (by omega) (by omega) 31 5 rfl rfl)
              have HP6 : Hid (∀ (W : World) (lv : Value), OwnT (w.heap.size + 1 + 1) W lv ([true, true] ++ num 31 5) → Ov ((w.alloc (.cells #[.bool true, .int .u64  (v : Nat), .int .u8  (lead : Nat), .int .u8  (width : Nat)] 24)).alloc (.cells #[.bool false, .int .u64  0, .int .u8  0, .int .u8  0] 24)) W → Calls Tryd.prog 75 #[lv, .int .u64 ((R : Nat) : Int), .int .i64 6] W (PutL ((w.alloc (.cells #[.bool true, .int .u64  (v : Nat), .int .u8  (lead : Nat), .int .u8  (width : Nat)] 24)).alloc (.cells #[.bool false, .int .u64  0, .int .u8  0, .int .u8  0] 24)) (w.heap.size + 1 + 1) ([true, true] ++ num 31 5 ++ num R 6))) :=
                hid (fun W lv h1 h2 => rput_i h1 h2 (by first | exact Nat.le_refl _ | rfl | omega | (simp; done) | (simp; omega)) (OwnT.base_le h1 (by simp)) (by simp [num_length]) R 6 (by omega) (by omega) R 6 rfl rfl)
              have HP7 : Hid (∀ (W : World) (lv : Value), OwnT (w.heap.size + 1 + 1) W lv ([true, true] ++ num 31 5 ++ num R 6) → Ov ((w.alloc (.cells #[.bool true, .int .u64  (v : Nat), .int .u8  (lead : Nat), .int .u8  (width : Nat)] 24)).alloc (.cells #[.bool false, .int .u64  0, .int .u8  0, .int .u8  0] 24)) W → Calls Tryd.prog 75 #[lv, .int .u64 ((D : Nat) : Int), .int .i64 ((S : Nat) : Int)] W (PutL ((w.alloc (.cells #[.bool true, .int .u64  (v : Nat), .int .u8  (lead : Nat), .int .u8  (width : Nat)] 24)).alloc (.cells #[.bool false, .int .u64  0, .int .u8  0, .int .u8  0] 24)) (w.heap.size + 1 + 1) WW)) :=
                hid (fun W lv h1 h2 => by rw [← HWW.out]; exact rput_any h1 h2 (by first | exact Nat.le_refl _ | rfl | omega | (simp; done) | (simp; omega)) (OwnT.base_le h1 (by simp)) (by simp [num_length]) D S (by omega) (by omega))
              skip
              go_wp2_with (first | (at_builtin; refine wpList_append byte_elem tcs_len tcs_one rfl (.tmp 95) (.tmp 96) rfl (B := (w.alloc (.cells #[.bool true, .int .u64  (v : Nat), .int .u8  (lead : Nat), .int .u8  (width : Nat)] 24)).alloc (.cells #[.bool false, .int .u64  0, .int .u8  0, .int .u8  0] 24)) (xs := [true, true]) (Own.nil (base := w.heap.size + 1 + 1) ((w.alloc (.cells #[.bool true, .int .u64  (v : Nat), .int .u8  (lead : Nat), .int .u8  (width : Nat)] 24)).alloc (.cells #[.bool false, .int .u64  0, .int .u8  0, .int .u8  0] 24))) rfl rfl (by (try unfold Ov); repeat (first | with_reducible exact ex_over | with_reducible exact over_self _ | with_reducible refine ex_undrew ?_ | with_reducible refine ex_into ?_ _ | with_reducible refine ex_alloc ?_ _ | with_reducible refine ex_drew ?_ | ((with_reducible refine ex_setCell ?_ ?_ _); rotate_left; (first | omega | (focus (simp; done)) | (focus (simp; omega)))) | ((with_reducible refine ex_chg ?_ _ ?_); rotate_left; (first | assumption | (exact Hid.out (by assumption)))) | exact ex_over)) (by (try unfold Ov); repeat (first | with_reducible exact ex_over | with_reducible exact over_self _ | with_reducible refine ex_undrew ?_ | with_reducible refine ex_into ?_ _ | with_reducible refine ex_alloc ?_ _ | with_reducible refine ex_drew ?_ | ((with_reducible refine ex_setCell ?_ ?_ _); rotate_left; (first | omega | (focus (simp; done)) | (focus (simp; omega)))) | ((with_reducible refine ex_chg ?_ _ ?_); rotate_left; (first | assumption | (exact Hid.out (by assumption)))) | exact ex_over)) (by first | assumption | (simp; done) | (simp; omega) | omega) (by first | assumption | (simp; done) | (simp; omega) | omega) (by (repeat with_reducible refine Sl.drew ?_); refine Sl.lit_as (xs := [true, true]) tcs_len ?_ ?_ ?_ ?_ <;> first | rfl | (simp; done) | (simp [maxLen]; done) | (simp; omega)) (by simp only [List.length_append, List.length_cons, List.length_nil]; unfold maxLen; omega) (by simp only [List.length_append, List.length_cons, List.length_nil]; omega) ?_; intro v' x' ho0 _ _; rw [List.nil_append] at ho0) | (go_at_call 75; (with_reducible refine (HP5.out _ _ (by repeat (first | with_reducible exact ho0 | ((with_reducible refine Own.set_ne ?_ ?_ _); rotate_left; (first | assumption | (focus (simp; done)) | (focus (simp [Value.ownBlock]; done)) | (focus (simp [Value.ownBlock]; omega)))) | ((with_reducible refine Own.in_some ?_ _ ?_); rotate_left; (first | assumption | (focus (simp; done)) | (focus (simp; omega)))) | ((with_reducible refine Own.in_one ?_ _ ?_); rotate_left; (first | assumption | (focus (simp [Value.ownBlock]; done)) | (focus (simp [Value.ownBlock]; omega)))) | ((with_reducible refine Own.chg ?_ (chg_chg _ _ _) ?_); rotate_left; (first | assumption | (focus (simp; done)) | (focus (simp; omega)))) | with_reducible refine Own.over ?_ _ | with_reducible refine Own.alloc ?_ _ | with_reducible refine Own.drew ?_ | exact ho0)) (by (try unfold Ov); repeat (first | with_reducible exact ex_over | with_reducible exact over_self _ | with_reducible refine ex_undrew ?_ | with_reducible refine ex_into ?_ _ | with_reducible refine ex_alloc ?_ _ | with_reducible refine ex_drew ?_ | ((with_reducible refine ex_setCell ?_ ?_ _); rotate_left; (first | omega | (focus (simp; done)) | (focus (simp; omega)))) | ((with_reducible refine ex_chg ?_ _ ?_); rotate_left; (first | assumption | (exact Hid.out (by assumption)))) | exact ex_over))).mono ?_); rintro _ _ ⟨⟨e1, rfl⟩, lv1, rfl, ho1⟩) | (go_at_call 75; (with_reducible refine (HP6.out _ _ (by repeat (first | with_reducible exact ho1 | ((with_reducible refine Own.set_ne ?_ ?_ _); rotate_left; (first | assumption | (focus (simp; done)) | (focus (simp [Value.ownBlock]; done)) | (focus (simp [Value.ownBlock]; omega)))) | ((with_reducible refine Own.in_some ?_ _ ?_); rotate_left; (first | assumption | (focus (simp; done)) | (focus (simp; omega)))) | ((with_reducible refine Own.in_one ?_ _ ?_); rotate_left; (first | assumption | (focus (simp [Value.ownBlock]; done)) | (focus (simp [Value.ownBlock]; omega)))) | ((with_reducible refine Own.chg ?_ (chg_chg _ _ _) ?_); rotate_left; (first | assumption | (focus (simp; done)) | (focus (simp; omega)))) | with_reducible refine Own.over ?_ _ | with_reducible refine Own.alloc ?_ _ | with_reducible refine Own.drew ?_ | exact ho1)) (by (try unfold Ov); repeat (first | with_reducible exact ex_over | with_reducible exact over_self _ | with_reducible refine ex_undrew ?_ | with_reducible refine ex_into ?_ _ | with_reducible refine ex_alloc ?_ _ | with_reducible refine ex_drew ?_ | ((with_reducible refine ex_setCell ?_ ?_ _); rotate_left; (first | omega | (focus (simp; done)) | (focus (simp; omega)))) | ((with_reducible refine ex_chg ?_ _ ?_); rotate_left; (first | assumption | (exact Hid.out (by assumption)))) | exact ex_over))).mono ?_); rintro _ _ ⟨⟨e2, rfl⟩, lv2, rfl, ho2⟩) | (go_at_call 75; (with_reducible refine (HP7.out _ _ (by repeat (first | with_reducible exact ho2 | ((with_reducible refine Own.set_ne ?_ ?_ _); rotate_left; (first | assumption | (focus (simp; done)) | (focus (simp [Value.ownBlock]; done)) | (focus (simp [Value.ownBlock]; omega)))) | ((with_reducible refine Own.in_some ?_ _ ?_); rotate_left; (first | assumption | (focus (simp; done)) | (focus (simp; omega)))) | ((with_reducible refine Own.in_one ?_ _ ?_); rotate_left; (first | assumption | (focus (simp [Value.ownBlock]; done)) | (focus (simp [Value.ownBlock]; omega)))) | ((with_reducible refine Own.chg ?_ (chg_chg _ _ _) ?_); rotate_left; (first | assumption | (focus (simp; done)) | (focus (simp; omega)))) | with_reducible refine Own.over ?_ _ | with_reducible refine Own.alloc ?_ _ | with_reducible refine Own.drew ?_ | exact ho2)) (by (try unfold Ov); repeat (first | with_reducible exact ex_over | with_reducible exact over_self _ | with_reducible refine ex_undrew ?_ | with_reducible refine ex_into ?_ _ | with_reducible refine ex_alloc ?_ _ | with_reducible refine ex_drew ?_ | ((with_reducible refine ex_setCell ?_ ?_ _); rotate_left; (first | omega | (focus (simp; done)) | (focus (simp; omega)))) | ((with_reducible refine ex_chg ?_ _ ?_); rotate_left; (first | assumption | (exact Hid.out (by assumption)))) | exact ex_over))).mono ?_); rintro _ _ ⟨⟨e3, rfl⟩, lv3, rfl, ho3⟩))
              refine M2.wp_region_mix [3] 3 (by kernel_rfl) (by kernel_rfl) (by decide) ?_
              simp only [List.take_succ_cons, List.take_zero, List.drop_succ_cons, List.drop_zero]
              with_reducible refine M2.mixL_quiet 3 (by kernel_rfl) ?_
              simp only [List.take_succ_cons, List.take_zero, List.drop_succ_cons, List.drop_zero]
              repeat (go_big_quiet_step (fail))
              with_reducible refine wpQuiet_nil ?_
              with_reducible refine M2.mixL_nil ?_
              with_reducible refine M2.mixL_eff (by decide) ?_
              go_wp2_with (fail)
              refine M2.MixQ.mk trivial ?_
              with_reducible refine M2.mixL_nil ?_
              go_wp2
              (try simp only [Exit.inBlock, Exit.then])
              refine bodyPost_ret (v := ?rv71) ?rh71 rfl ?rp71
              case rh71 => (simp only [results, show Tryd.f47.results = #[.tmp 4, .cell 5 24] from rfl]; go_simp; rfl)
              exact ⟨_, rfl, (by (try unfold Ov); repeat (first | with_reducible exact ex_over | with_reducible exact over_self _ | with_reducible refine ex_undrew ?_ | with_reducible refine ex_into ?_ _ | with_reducible refine ex_alloc ?_ _ | with_reducible refine ex_drew ?_ | ((with_reducible refine ex_setCell ?_ ?_ _); rotate_left; (first | omega | (focus (simp; done)) | (focus (simp; omega)))) | ((with_reducible refine ex_chg ?_ _ ?_); rotate_left; (first | assumption | (exact Hid.out (by assumption)))) | exact ex_over)), Own.mono (Own.over_swap ho3 (by first | exact Nat.le_refl _ | rfl | omega | (simp; done) | (simp; omega)) (by first | exact Nat.le_refl _ | rfl | omega | (simp; done) | (simp; omega))) (by first | exact Nat.le_refl _ | rfl | omega | (simp; done) | (simp; omega))⟩
    · have hw1 : 0 < (width : Int) := by omega
      have c' : (lead : Int) ≤ (Z : Int) := by omega
      go_enter Tryd.func47, Tryd.ntmps47
      go_wp2
      go_loop [8] (fun i => ∃ (k : Nat), k ≤ Z ∧ i = .int .i64 k) (fun i => (64 - intOf i).toNat)
      case atStart => exact ⟨0, Nat.zero_le _, rfl⟩
      case round =>
        obtain ⟨k, hk, rfl⟩ := hrel
        by_cases hlt : k < Z
        · have hE := bit0_e hd (HZ.out k hlt)
          go_wp2
          go_round
          case rel => exact ⟨k + 1, by omega, by go_num⟩
          case measure => simp [intOf]; omega
        · obtain rfl : Z = k := by omega
          have hE := bit1_e hd HZ1.out
          go_wp2
          clear hE
          go_loop [9] (fun i => ∃ (E : Nat), 64 - T ≤ E ∧ E ≤ 64 ∧ i = .int .i64 E) (fun i => (intOf i).toNat)
          case atStart => exact ⟨64, by omega, Nat.le_refl _, rfl⟩
          case round =>
            obtain ⟨E, hE1, hE2, rfl⟩ := hrel
            by_cases hlt2 : 64 - E < T
            · have hE := bit0_e hd (HT.out (64 - E) hlt2)
              go_wp2
              go_round
              case rel => exact ⟨E - 1, by omega, by omega, by go_num⟩
              case measure => simp [intOf]; omega
            · have hET : 64 - E = T := by omega
              have hE := bit1_e hd (show d.testBit (64 - E) = true by rw [hET]; exact HT1.out)
              clear hE1 hlt2 hlt hk
              have HET := hid hET
              clear hET
              have hSh := HSH.out E HET.out
              have hE9 : bits .and .u64 (D : Int) 1 = 1 := by rw [← hSh]; exact hE
              have hES : (E : Int) - 31 = (S : Int) := HES.out E hE2 HET.out
              have HE2 : 64 ≤ E + T := by have := HET.out; omega
              have HE3 : E + T ≤ 64 := by have := HET.out; omega
              have HP5 : Hid (∀ (W : World) (lv : Value), OwnT (w.heap.size + 1 + 1) W lv [true, true] → Ov ((w.alloc (.cells #[.bool true, .int .u64  (v : Nat), .int .u8  (lead : Nat), .int .u8  (width : Nat)] 24)).alloc (.cells #[.bool false, .int .u64  0, .int .u8  0, .int .u8  0] 24)) W → Calls Tryd.prog 75 #[lv, .int .u64 31, .int .i64 5] W (PutL ((w.alloc (.cells #[.bool true, .int .u64  (v : Nat), .int .u8  (lead : Nat), .int .u8  (width : Nat)] 24)).alloc (.cells #[.bool false, .int .u64  0, .int .u8  0, .int .u8  0] 24)) (w.heap.size + 1 + 1) ([true, true] ++ num 31 5))) :=
                hid (fun W lv h1 h2 => rput_i h1 h2 (by first | exact Nat.le_refl _ | rfl | omega | (simp; done) | (simp; omega)) (OwnT.base_le h1 (by simp)) (by simp) 31 5 (by omega) (by omega) 31 5 rfl rfl)
              have HP6 : Hid (∀ (W : World) (lv : Value), OwnT (w.heap.size + 1 + 1) W lv ([true, true] ++ num 31 5) → Ov ((w.alloc (.cells #[.bool true, .int .u64  (v : Nat), .int .u8  (lead : Nat), .int .u8  (width : Nat)] 24)).alloc (.cells #[.bool false, .int .u64  0, .int .u8  0, .int .u8  0] 24)) W → Calls Tryd.prog 75 #[lv, .int .u64 ((R : Nat) : Int), .int .i64 6] W (PutL ((w.alloc (.cells #[.bool true, .int .u64  (v : Nat), .int .u8  (lead : Nat), .int .u8  (width : Nat)] 24)).alloc (.cells #[.bool false, .int .u64  0, .int .u8  0, .int .u8  0] 24)) (w.heap.size + 1 + 1) ([true, true] ++ num 31 5 ++ num R 6))) :=
                hid (fun W lv h1 h2 => rput_i h1 h2 (by first | exact Nat.le_refl _ | rfl | omega | (simp; done) | (simp; omega)) (OwnT.base_le h1 (by simp)) (by simp [num_length]) R 6 (by omega) (by omega) R 6 rfl rfl)
              have HP7 : Hid (∀ (W : World) (lv : Value), OwnT (w.heap.size + 1 + 1) W lv ([true, true] ++ num 31 5 ++ num R 6) → Ov ((w.alloc (.cells #[.bool true, .int .u64  (v : Nat), .int .u8  (lead : Nat), .int .u8  (width : Nat)] 24)).alloc (.cells #[.bool false, .int .u64  0, .int .u8  0, .int .u8  0] 24)) W → Calls Tryd.prog 75 #[lv, .int .u64 ((D : Nat) : Int), .int .i64 ((S : Nat) : Int)] W (PutL ((w.alloc (.cells #[.bool true, .int .u64  (v : Nat), .int .u8  (lead : Nat), .int .u8  (width : Nat)] 24)).alloc (.cells #[.bool false, .int .u64  0, .int .u8  0, .int .u8  0] 24)) (w.heap.size + 1 + 1) WW)) :=
                hid (fun W lv h1 h2 => by rw [← HWW.out]; exact rput_any h1 h2 (by first | exact Nat.le_refl _ | rfl | omega | (simp; done) | (simp; omega)) (OwnT.base_le h1 (by simp)) (by simp [num_length]) D S (by omega) (by omega))
              have c9 : ¬ (E : Int) ≤ (lead : Int) + (width : Int) := by omega
              go_wp2_with (first | (at_builtin; refine wpList_append byte_elem tcs_len tcs_one rfl (.tmp 95) (.tmp 96) rfl (B := (w.alloc (.cells #[.bool true, .int .u64  (v : Nat), .int .u8  (lead : Nat), .int .u8  (width : Nat)] 24)).alloc (.cells #[.bool false, .int .u64  0, .int .u8  0, .int .u8  0] 24)) (xs := [true, true]) (Own.nil (base := w.heap.size + 1 + 1) ((w.alloc (.cells #[.bool true, .int .u64  (v : Nat), .int .u8  (lead : Nat), .int .u8  (width : Nat)] 24)).alloc (.cells #[.bool false, .int .u64  0, .int .u8  0, .int .u8  0] 24))) rfl rfl (by (try unfold Ov); repeat (first | with_reducible exact ex_over | with_reducible exact over_self _ | with_reducible refine ex_undrew ?_ | with_reducible refine ex_into ?_ _ | with_reducible refine ex_alloc ?_ _ | with_reducible refine ex_drew ?_ | ((with_reducible refine ex_setCell ?_ ?_ _); rotate_left; (first | omega | (focus (simp; done)) | (focus (simp; omega)))) | ((with_reducible refine ex_chg ?_ _ ?_); rotate_left; (first | assumption | (exact Hid.out (by assumption)))) | exact ex_over)) (by (try unfold Ov); repeat (first | with_reducible exact ex_over | with_reducible exact over_self _ | with_reducible refine ex_undrew ?_ | with_reducible refine ex_into ?_ _ | with_reducible refine ex_alloc ?_ _ | with_reducible refine ex_drew ?_ | ((with_reducible refine ex_setCell ?_ ?_ _); rotate_left; (first | omega | (focus (simp; done)) | (focus (simp; omega)))) | ((with_reducible refine ex_chg ?_ _ ?_); rotate_left; (first | assumption | (exact Hid.out (by assumption)))) | exact ex_over)) (by first | assumption | (simp; done) | (simp; omega) | omega) (by first | assumption | (simp; done) | (simp; omega) | omega) (by (repeat with_reducible refine Sl.drew ?_); refine Sl.lit_as (xs := [true, true]) tcs_len ?_ ?_ ?_ ?_ <;> first | rfl | (simp; done) | (simp [maxLen]; done) | (simp; omega)) (by simp only [List.length_append, List.length_cons, List.length_nil]; unfold maxLen; omega) (by simp only [List.length_append, List.length_cons, List.length_nil]; omega) ?_; intro v' x' ho0 _ _; rw [List.nil_append] at ho0) | (go_at_call 75; (with_reducible refine (HP5.out _ _ (by repeat (first | with_reducible exact ho0 | ((with_reducible refine Own.set_ne ?_ ?_ _); rotate_left; (first | assumption | (focus (simp; done)) | (focus (simp [Value.ownBlock]; done)) | (focus (simp [Value.ownBlock]; omega)))) | ((with_reducible refine Own.in_some ?_ _ ?_); rotate_left; (first | assumption | (focus (simp; done)) | (focus (simp; omega)))) | ((with_reducible refine Own.in_one ?_ _ ?_); rotate_left; (first | assumption | (focus (simp [Value.ownBlock]; done)) | (focus (simp [Value.ownBlock]; omega)))) | ((with_reducible refine Own.chg ?_ (chg_chg _ _ _) ?_); rotate_left; (first | assumption | (focus (simp; done)) | (focus (simp; omega)))) | with_reducible refine Own.over ?_ _ | with_reducible refine Own.alloc ?_ _ | with_reducible refine Own.drew ?_ | exact ho0)) (by (try unfold Ov); repeat (first | with_reducible exact ex_over | with_reducible exact over_self _ | with_reducible refine ex_undrew ?_ | with_reducible refine ex_into ?_ _ | with_reducible refine ex_alloc ?_ _ | with_reducible refine ex_drew ?_ | ((with_reducible refine ex_setCell ?_ ?_ _); rotate_left; (first | omega | (focus (simp; done)) | (focus (simp; omega)))) | ((with_reducible refine ex_chg ?_ _ ?_); rotate_left; (first | assumption | (exact Hid.out (by assumption)))) | exact ex_over))).mono ?_); rintro _ _ ⟨⟨e1, rfl⟩, lv1, rfl, ho1⟩) | (go_at_call 75; (with_reducible refine (HP6.out _ _ (by repeat (first | with_reducible exact ho1 | ((with_reducible refine Own.set_ne ?_ ?_ _); rotate_left; (first | assumption | (focus (simp; done)) | (focus (simp [Value.ownBlock]; done)) | (focus (simp [Value.ownBlock]; omega)))) | ((with_reducible refine Own.in_some ?_ _ ?_); rotate_left; (first | assumption | (focus (simp; done)) | (focus (simp; omega)))) | ((with_reducible refine Own.in_one ?_ _ ?_); rotate_left; (first | assumption | (focus (simp [Value.ownBlock]; done)) | (focus (simp [Value.ownBlock]; omega)))) | ((with_reducible refine Own.chg ?_ (chg_chg _ _ _) ?_); rotate_left; (first | assumption | (focus (simp; done)) | (focus (simp; omega)))) | with_reducible refine Own.over ?_ _ | with_reducible refine Own.alloc ?_ _ | with_reducible refine Own.drew ?_ | exact ho1)) (by (try unfold Ov); repeat (first | with_reducible exact ex_over | with_reducible exact over_self _ | with_reducible refine ex_undrew ?_ | with_reducible refine ex_into ?_ _ | with_reducible refine ex_alloc ?_ _ | with_reducible refine ex_drew ?_ | ((with_reducible refine ex_setCell ?_ ?_ _); rotate_left; (first | omega | (focus (simp; done)) | (focus (simp; omega)))) | ((with_reducible refine ex_chg ?_ _ ?_); rotate_left; (first | assumption | (exact Hid.out (by assumption)))) | exact ex_over))).mono ?_); rintro _ _ ⟨⟨e2, rfl⟩, lv2, rfl, ho2⟩) | (go_at_call 75; (with_reducible refine (HP7.out _ _ (by repeat (first | with_reducible exact ho2 | ((with_reducible refine Own.set_ne ?_ ?_ _); rotate_left; (first | assumption | (focus (simp; done)) | (focus (simp [Value.ownBlock]; done)) | (focus (simp [Value.ownBlock]; omega)))) | ((with_reducible refine Own.in_some ?_ _ ?_); rotate_left; (first | assumption | (focus (simp; done)) | (focus (simp; omega)))) | ((with_reducible refine Own.in_one ?_ _ ?_); rotate_left; (first | assumption | (focus (simp [Value.ownBlock]; done)) | (focus (simp [Value.ownBlock]; omega)))) | ((with_reducible refine Own.chg ?_ (chg_chg _ _ _) ?_); rotate_left; (first | assumption | (focus (simp; done)) | (focus (simp; omega)))) | with_reducible refine Own.over ?_ _ | with_reducible refine Own.alloc ?_ _ | with_reducible refine Own.drew ?_ | exact ho2)) (by (try unfold Ov); repeat (first | with_reducible exact ex_over | with_reducible exact over_self _ | with_reducible refine ex_undrew ?_ | with_reducible refine ex_into ?_ _ | with_reducible refine ex_alloc ?_ _ | with_reducible refine ex_drew ?_ | ((with_reducible refine ex_setCell ?_ ?_ _); rotate_left; (first | omega | (focus (simp; done)) | (focus (simp; omega)))) | ((with_reducible refine ex_chg ?_ _ ?_); rotate_left; (first | assumption | (exact Hid.out (by assumption)))) | exact ex_over))).mono ?_); rintro _ _ ⟨⟨e3, rfl⟩, lv3, rfl, ho3⟩))
              refine M2.wp_region_mix [3] 3 (by kernel_rfl) (by kernel_rfl) (by decide) ?_
              simp only [List.take_succ_cons, List.take_zero, List.drop_succ_cons, List.drop_zero]
              with_reducible refine M2.mixL_quiet 3 (by kernel_rfl) ?_
              simp only [List.take_succ_cons, List.take_zero, List.drop_succ_cons, List.drop_zero]
              repeat (go_big_quiet_step (fail))
              with_reducible refine wpQuiet_nil ?_
              with_reducible refine M2.mixL_nil ?_
              with_reducible refine M2.mixL_eff (by decide) ?_
              go_wp2_with (fail)
              refine M2.MixQ.mk trivial ?_
              with_reducible refine M2.mixL_nil ?_
              go_wp2
              (try simp only [Exit.inBlock, Exit.then])
              refine bodyPost_ret (v := ?rv72) ?rh72 rfl ?rp72
              case rh72 => (simp only [results, show Tryd.f47.results = #[.tmp 4, .cell 5 24] from rfl]; go_simp; rfl)
              exact ⟨_, rfl, (by (try unfold Ov); repeat (first | with_reducible exact ex_over | with_reducible exact over_self _ | with_reducible refine ex_undrew ?_ | with_reducible refine ex_into ?_ _ | with_reducible refine ex_alloc ?_ _ | with_reducible refine ex_drew ?_ | ((with_reducible refine ex_setCell ?_ ?_ _); rotate_left; (first | omega | (focus (simp; done)) | (focus (simp; omega)))) | ((with_reducible refine ex_chg ?_ _ ?_); rotate_left; (first | assumption | (exact Hid.out (by assumption)))) | exact ex_over)), Own.mono (Own.over_swap ho3 (by first | exact Nat.le_refl _ | rfl | omega | (simp; done) | (simp; omega)) (by first | exact Nat.le_refl _ | rfl | omega | (simp; done) | (simp; omega))) (by first | exact Nat.le_refl _ | rfl | omega | (simp; done) | (simp; omega))⟩
end Go.Proofs.YthljlajdkdgieaaDoor
