import Derived.Test.YtnffcckhdedhpaaGreatDoorGG
import Derived.Test.YtnffcckhdedhpaaGreatDoorGC
namespace Go.Proofs.YtnffcckhdedhpaaGreatDoor
set_option linter.unusedVariables false
set_option linter.unusedSimpArgs false
set_option maxRecDepth 100000
set_option maxHeartbeats 8000000
section
open Go.RowKit
theorem rwrit_anew (s : Vl) (hs : s.wf) (hh : s.has = true) (hl : s.lead + s.width ≤ 64) (v : Nat) (hv : v < 18446744073709551616) (h0 : v ^^^ s.prev ≠ 0) (hb : inBand s.lead s.width (v ^^^ s.prev) = false) (w : World) :
    Calls Tryz.prog 155 #[s.v, .int .u64 (v : Nat)] w (RwPost w (written s v).1 (written s v).2) := by
  have hwr : written s v = ([true, true] ++ num (aLead (v ^^^ s.prev)) 5 ++ num (aSize (v ^^^ s.prev) - 1) 6 ++ num ((v ^^^ s.prev) >>> tz (v ^^^ s.prev)) (aSize (v ^^^ s.prev)), ⟨true, v, aLead (v ^^^ s.prev), aSize (v ^^^ s.prev)⟩) := by unfold written; rw [if_pos hh, if_neg h0, hb]; simp
  rw [hwr]; clear hwr; obtain ⟨has, prev, lead, width⟩ := s; simp only at hh; subst hh; obtain ⟨h1, h2, h3⟩ := hs; simp only at h1 h2 h3; simp only at h0 hb hl; have hd : v ^^^ prev < 18446744073709551616 := Nat.xor_lt_two_pow (n := 64) hv h1; have hX := xor64 v prev hv h1; generalize hdd : v ^^^ prev = d at *; clear hdd; have hlz := lz_spec hd h0; have htz := tz_spec hd h0; have hlt0 := lz_tz hd h0; have hA := around_le hd h0; have h0' : ((d : Int) == 0) = false := by simp; omega
  have hal : aLead d = min (lz d) 31 := rfl; have hb3 : ¬ (0 < width ∧ lead ≤ lz d ∧ 64 - lead - width ≤ tz d) := by
   intro hc; rw [inBand, decide_eq_true hc.1, decide_eq_true hc.2.1, decide_eq_true hc.2.2] at hb; cases hb
  clear hb; generalize hZ : lz d = Z at *; generalize hTT : tz d = T at *; obtain ⟨L, hL⟩ : ∃ L, aLead d = L := ⟨_, rfl⟩; obtain ⟨S, hS⟩ : ∃ S, aSize d = S := ⟨_, rfl⟩; obtain ⟨D, hD⟩ : ∃ D, d >>> T = D := ⟨_, rfl⟩; have hDl : D < 18446744073709551616 := by rw [← hD]; exact shr_lt hd
  rw [hL, hS] at hA; rw [hL] at hal; rw [hL, hS, hD]; obtain ⟨a1, a2, a3, a4, a5, a6, a7⟩ := hA; obtain ⟨R, hR⟩ : ∃ R, S - 1 = R := ⟨_, rfl⟩; have hSm : (S : Int) - 1 = (R : Int) := by omega
  have hRl : R < 64 := by omega
  rw [hR]; have HSH : Hid (∀ E : Nat, 64 - E = T → (d : Int) / (2 : Int) ^ (64 - E) = (D : Int)) := hid (fun E hE => by rw [cast_shr, hE, hD]); have HES : Hid (∀ E : Nat, E ≤ 64 → 64 - E = T → (E : Int) - (L : Int) = (S : Int)) := hid (fun E h1 h2 => by omega); obtain ⟨z1, z2, z3⟩ := hlz; obtain ⟨t1, t2, t3⟩ := htz; have HZ := hid z3; have HZ1 := hid z2; have HT := hid t3; have HT1 := hid t2; have HAL := hid hal; clear z3 z2 t3 t2 hD h0 hZ hTT hL hS hR a6 a7 hal; have hcs : ¬ 0 < width ∨ (0 < width ∧ ¬ lead ≤ Z) ∨ (0 < width ∧ lead ≤ Z ∧ ¬ 64 ≤ lead + width + T) := by omega
  clear hb3; obtain ⟨WW, hWW⟩ : ∃ WW, [true, true] ++ num L 5 ++ num R 6 ++ num D S = WW := ⟨_, rfl⟩; rw [hWW]; have HWW := hid hWW; clear hWW; by_cases h31 : (Z : Int) ≤ 31
  · obtain rfl : L = Z := by rw [HAL.out]; omega
    have hmin : min (L : Int) 31 = (L : Int) := by omega
    rcases hcs with c | ⟨hw0, c⟩ | ⟨hw0, hlz0, c⟩
    · have c' : ¬ 0 < (width : Int) := by omega
      go_enter Tryz.func155, Tryz.ntmps155; go_wp2
      go_loop [8] (fun i => ∃ (k : Nat), k ≤ L ∧ i = .int .i64 k) (fun i => (64 - intOf i).toNat)
      case atStart => exact ⟨0, Nat.zero_le _, rfl⟩
      case round =>
       obtain ⟨k, hk, rfl⟩ := hrel; by_cases hlt : k < L
       · have hE := bit0_e hd (HZ.out k hlt); go_wp2
         go_round
         case rel => exact ⟨k + 1, by omega, by go_num⟩
         case measure => simp [intOf]; omega
       · obtain rfl : L = k := by omega
         have hE := bit1_e hd HZ1.out; go_wp2; clear hE
         go_loop [9] (fun i => ∃ (E : Nat), 64 - T ≤ E ∧ E ≤ 64 ∧ i = .int .i64 E) (fun i => (intOf i).toNat)
         case atStart => exact ⟨64, by omega, Nat.le_refl _, rfl⟩
         case round =>
          obtain ⟨E, hE1, hE2, rfl⟩ := hrel; by_cases hlt2 : 64 - E < T
          · have hE := bit0_e hd (HT.out (64 - E) hlt2); go_wp2
            go_round
            case rel => exact ⟨E - 1, by omega, by omega, by go_num⟩
            case measure => simp [intOf]; omega
          · have hET : 64 - E = T := by omega
            have hE := bit1_e hd (show d.testBit (64 - E) = true by rw [hET]; exact HT1.out); clear hE1 hlt2 hlt hk; have HET := hid hET; clear hET; have hSh := HSH.out E HET.out; have hE9 : bits .and .u64 (D : Int) 1 = 1 := by rw [← hSh]; exact hE
            have hES : (E : Int) - ((L : Nat) : Int) = (S : Int) := HES.out E hE2 HET.out; have HE2 : 64 ≤ E + T := by have := HET.out; omega
            have HE3 : E + T ≤ 64 := by have := HET.out; omega
            have HP5 : Hid (∀ (W : World) (lv : Value), OwnT (w.heap.size + 1 + 1) W lv [true, true] → Ov ((w.alloc (.cells #[.bool true, .int .u64  (v : Nat), .int .u8  (lead : Nat), .int .u8  (width : Nat)] 109)).alloc (.cells #[.bool false, .int .u64  0, .int .u8  0, .int .u8  0] 109)) W → Calls Tryz.prog 160 #[lv, .int .u64 ((L : Nat) : Int), .int .i64 5] W (PutL ((w.alloc (.cells #[.bool true, .int .u64  (v : Nat), .int .u8  (lead : Nat), .int .u8  (width : Nat)] 109)).alloc (.cells #[.bool false, .int .u64  0, .int .u8  0, .int .u8  0] 109)) (w.heap.size + 1 + 1) ([true, true] ++ num L 5))) :=
             hid (fun W lv h1 h2 => rput_i h1 h2 (by exact szA) (OwnT.base_le h1 (by simp)) (by simp) L 5 (by omega) (by omega) ((L : Nat) : Int) 5 rfl rfl)
            have HP6 : Hid (∀ (W : World) (lv : Value), OwnT (w.heap.size + 1 + 1) W lv ([true, true] ++ num L 5) → Ov ((w.alloc (.cells #[.bool true, .int .u64  (v : Nat), .int .u8  (lead : Nat), .int .u8  (width : Nat)] 109)).alloc (.cells #[.bool false, .int .u64  0, .int .u8  0, .int .u8  0] 109)) W → Calls Tryz.prog 160 #[lv, .int .u64 ((R : Nat) : Int), .int .i64 6] W (PutL ((w.alloc (.cells #[.bool true, .int .u64  (v : Nat), .int .u8  (lead : Nat), .int .u8  (width : Nat)] 109)).alloc (.cells #[.bool false, .int .u64  0, .int .u8  0, .int .u8  0] 109)) (w.heap.size + 1 + 1) ([true, true] ++ num L 5 ++ num R 6))) :=
             hid (fun W lv h1 h2 => rput_i h1 h2 (by exact szA) (OwnT.base_le h1 (by simp)) (by simp [nml]) R 6 (by omega) (by omega) R 6 rfl rfl)
            have HP7 : Hid (∀ (W : World) (lv : Value), OwnT (w.heap.size + 1 + 1) W lv ([true, true] ++ num L 5 ++ num R 6) → Ov ((w.alloc (.cells #[.bool true, .int .u64  (v : Nat), .int .u8  (lead : Nat), .int .u8  (width : Nat)] 109)).alloc (.cells #[.bool false, .int .u64  0, .int .u8  0, .int .u8  0] 109)) W → Calls Tryz.prog 160 #[lv, .int .u64 ((D : Nat) : Int), .int .i64 ((S : Nat) : Int)] W (PutL ((w.alloc (.cells #[.bool true, .int .u64  (v : Nat), .int .u8  (lead : Nat), .int .u8  (width : Nat)] 109)).alloc (.cells #[.bool false, .int .u64  0, .int .u8  0, .int .u8  0] 109)) (w.heap.size + 1 + 1) WW)) :=
             hid (fun W lv h1 h2 => by rw [← HWW.out]; exact rput_any h1 h2 (by exact szA) (OwnT.base_le h1 (by simp)) (by simp [nml]) D S (by omega) (by omega))
            skip
            go_wp2_with (first | (at_builtin; refine wpList_append byte_elem tcs_len tcs_one rfl (.tmp 95) (.tmp 96) rfl (B := (w.alloc (.cells #[.bool true, .int .u64  (v : Nat), .int .u8  (lead : Nat), .int .u8  (width : Nat)] 109)).alloc (.cells #[.bool false, .int .u64  0, .int .u8  0, .int .u8  0] 109)) (xs := [true, true]) (Own.nil (base := w.heap.size + 1 + 1) ((w.alloc (.cells #[.bool true, .int .u64  (v : Nat), .int .u8  (lead : Nat), .int .u8  (width : Nat)] 109)).alloc (.cells #[.bool false, .int .u64  0, .int .u8  0, .int .u8  0] 109))) rfl rfl ovA ovA (by exact asA) (by exact asA) (by (repeat with_reducible refine Sl.drew ?_); refine Sl.lit_as (xs := [true, true]) tcs_len ?_ ?_ ?_ ?_ <;> first | rfl | (simp; done) | (simp [maxLen]; done) | (simp; omega)) (by simp only [List.length_append, List.length_cons, List.length_nil]; unfold maxLen; omega) (by simp only [List.length_append, List.length_cons, List.length_nil]; omega) ?_; intro v' x' ho0 _ _; rw [List.nil_append] at ho0) | (go_at_call 160; (with_reducible refine (HP5.out _ _ (by exact ownA ho0) (by unfold Ov; exact ovA)).mono ?_); rintro _ _ ⟨⟨e1, rfl⟩, lv1, rfl, ho1⟩) | (go_at_call 160; (with_reducible refine (HP6.out _ _ (by exact ownA ho1) (by unfold Ov; exact ovA)).mono ?_); rintro _ _ ⟨⟨e2, rfl⟩, lv2, rfl, ho2⟩) | (go_at_call 160; (with_reducible refine (HP7.out _ _ (by exact ownA ho2) (by unfold Ov; exact ovA)).mono ?_); rintro _ _ ⟨⟨e3, rfl⟩, lv3, rfl, ho3⟩))
            refine M2.wrm [3] 3 (by kernel_rfl) (by kernel_rfl) (by decide) ?_; simp only [M2.td]; with_reducible refine M2.mlq 3 (by kernel_rfl) ?_
            simp only [M2.td]; repeat (go_big_quiet_step (fail))
            with_reducible refine wpQuiet_nil ?_
            with_reducible refine M2.mln ?_
            with_reducible refine M2.mle (by decide) ?_
            go_wp2_with (fail)
            refine M2.MixQ.mk trivial ?_; with_reducible refine M2.mln ?_
            go_wp2
            (try simp only [Exit.inBlock, Exit.then])
            refine bodyPost_ret (v := ?rv75) ?rh75 rfl ?rp75
            case rh75 => (simp only [results, show Tryz.f155.results = #[.tmp 4, .cell 5 109] from rfl]; go_simp; rfl)
            exact ⟨_, rfl, ovA, Own.mono (Own.ovw ho3 (by exact szA) (by exact szA)) (by exact szA)⟩
    · have hw1 : 0 < (width : Int) := by omega
      have c' : ¬ (lead : Int) ≤ (L : Int) := by omega
      go_enter Tryz.func155, Tryz.ntmps155; go_wp2
      go_loop [8] (fun i => ∃ (k : Nat), k ≤ L ∧ i = .int .i64 k) (fun i => (64 - intOf i).toNat)
      case atStart => exact ⟨0, Nat.zero_le _, rfl⟩
      case round =>
       obtain ⟨k, hk, rfl⟩ := hrel; by_cases hlt : k < L
       · have hE := bit0_e hd (HZ.out k hlt); go_wp2
         go_round
         case rel => exact ⟨k + 1, by omega, by go_num⟩
         case measure => simp [intOf]; omega
       · obtain rfl : L = k := by omega
         have hE := bit1_e hd HZ1.out; go_wp2; clear hE
         go_loop [9] (fun i => ∃ (E : Nat), 64 - T ≤ E ∧ E ≤ 64 ∧ i = .int .i64 E) (fun i => (intOf i).toNat)
         case atStart => exact ⟨64, by omega, Nat.le_refl _, rfl⟩
         case round =>
          obtain ⟨E, hE1, hE2, rfl⟩ := hrel; by_cases hlt2 : 64 - E < T
          · have hE := bit0_e hd (HT.out (64 - E) hlt2); go_wp2
            go_round
            case rel => exact ⟨E - 1, by omega, by omega, by go_num⟩
            case measure => simp [intOf]; omega
          · have hET : 64 - E = T := by omega
            have hE := bit1_e hd (show d.testBit (64 - E) = true by rw [hET]; exact HT1.out); clear hE1 hlt2 hlt hk; have HET := hid hET; clear hET; have hSh := HSH.out E HET.out; have hE9 : bits .and .u64 (D : Int) 1 = 1 := by rw [← hSh]; exact hE
            have hES : (E : Int) - ((L : Nat) : Int) = (S : Int) := HES.out E hE2 HET.out; have HE2 : 64 ≤ E + T := by have := HET.out; omega
            have HE3 : E + T ≤ 64 := by have := HET.out; omega
            have HP5 : Hid (∀ (W : World) (lv : Value), OwnT (w.heap.size + 1 + 1) W lv [true, true] → Ov ((w.alloc (.cells #[.bool true, .int .u64  (v : Nat), .int .u8  (lead : Nat), .int .u8  (width : Nat)] 109)).alloc (.cells #[.bool false, .int .u64  0, .int .u8  0, .int .u8  0] 109)) W → Calls Tryz.prog 160 #[lv, .int .u64 ((L : Nat) : Int), .int .i64 5] W (PutL ((w.alloc (.cells #[.bool true, .int .u64  (v : Nat), .int .u8  (lead : Nat), .int .u8  (width : Nat)] 109)).alloc (.cells #[.bool false, .int .u64  0, .int .u8  0, .int .u8  0] 109)) (w.heap.size + 1 + 1) ([true, true] ++ num L 5))) :=
             hid (fun W lv h1 h2 => rput_i h1 h2 (by exact szA) (OwnT.base_le h1 (by simp)) (by simp) L 5 (by omega) (by omega) ((L : Nat) : Int) 5 rfl rfl)
            have HP6 : Hid (∀ (W : World) (lv : Value), OwnT (w.heap.size + 1 + 1) W lv ([true, true] ++ num L 5) → Ov ((w.alloc (.cells #[.bool true, .int .u64  (v : Nat), .int .u8  (lead : Nat), .int .u8  (width : Nat)] 109)).alloc (.cells #[.bool false, .int .u64  0, .int .u8  0, .int .u8  0] 109)) W → Calls Tryz.prog 160 #[lv, .int .u64 ((R : Nat) : Int), .int .i64 6] W (PutL ((w.alloc (.cells #[.bool true, .int .u64  (v : Nat), .int .u8  (lead : Nat), .int .u8  (width : Nat)] 109)).alloc (.cells #[.bool false, .int .u64  0, .int .u8  0, .int .u8  0] 109)) (w.heap.size + 1 + 1) ([true, true] ++ num L 5 ++ num R 6))) :=
             hid (fun W lv h1 h2 => rput_i h1 h2 (by exact szA) (OwnT.base_le h1 (by simp)) (by simp [nml]) R 6 (by omega) (by omega) R 6 rfl rfl)
            have HP7 : Hid (∀ (W : World) (lv : Value), OwnT (w.heap.size + 1 + 1) W lv ([true, true] ++ num L 5 ++ num R 6) → Ov ((w.alloc (.cells #[.bool true, .int .u64  (v : Nat), .int .u8  (lead : Nat), .int .u8  (width : Nat)] 109)).alloc (.cells #[.bool false, .int .u64  0, .int .u8  0, .int .u8  0] 109)) W → Calls Tryz.prog 160 #[lv, .int .u64 ((D : Nat) : Int), .int .i64 ((S : Nat) : Int)] W (PutL ((w.alloc (.cells #[.bool true, .int .u64  (v : Nat), .int .u8  (lead : Nat), .int .u8  (width : Nat)] 109)).alloc (.cells #[.bool false, .int .u64  0, .int .u8  0, .int .u8  0] 109)) (w.heap.size + 1 + 1) WW)) :=
             hid (fun W lv h1 h2 => by rw [← HWW.out]; exact rput_any h1 h2 (by exact szA) (OwnT.base_le h1 (by simp)) (by simp [nml]) D S (by omega) (by omega))
            skip
            go_wp2_with (first | (at_builtin; refine wpList_append byte_elem tcs_len tcs_one rfl (.tmp 95) (.tmp 96) rfl (B := (w.alloc (.cells #[.bool true, .int .u64  (v : Nat), .int .u8  (lead : Nat), .int .u8  (width : Nat)] 109)).alloc (.cells #[.bool false, .int .u64  0, .int .u8  0, .int .u8  0] 109)) (xs := [true, true]) (Own.nil (base := w.heap.size + 1 + 1) ((w.alloc (.cells #[.bool true, .int .u64  (v : Nat), .int .u8  (lead : Nat), .int .u8  (width : Nat)] 109)).alloc (.cells #[.bool false, .int .u64  0, .int .u8  0, .int .u8  0] 109))) rfl rfl ovA ovA (by exact asA) (by exact asA) (by (repeat with_reducible refine Sl.drew ?_); refine Sl.lit_as (xs := [true, true]) tcs_len ?_ ?_ ?_ ?_ <;> first | rfl | (simp; done) | (simp [maxLen]; done) | (simp; omega)) (by simp only [List.length_append, List.length_cons, List.length_nil]; unfold maxLen; omega) (by simp only [List.length_append, List.length_cons, List.length_nil]; omega) ?_; intro v' x' ho0 _ _; rw [List.nil_append] at ho0) | (go_at_call 160; (with_reducible refine (HP5.out _ _ (by exact ownA ho0) (by unfold Ov; exact ovA)).mono ?_); rintro _ _ ⟨⟨e1, rfl⟩, lv1, rfl, ho1⟩) | (go_at_call 160; (with_reducible refine (HP6.out _ _ (by exact ownA ho1) (by unfold Ov; exact ovA)).mono ?_); rintro _ _ ⟨⟨e2, rfl⟩, lv2, rfl, ho2⟩) | (go_at_call 160; (with_reducible refine (HP7.out _ _ (by exact ownA ho2) (by unfold Ov; exact ovA)).mono ?_); rintro _ _ ⟨⟨e3, rfl⟩, lv3, rfl, ho3⟩))
            refine M2.wrm [3] 3 (by kernel_rfl) (by kernel_rfl) (by decide) ?_; simp only [M2.td]; with_reducible refine M2.mlq 3 (by kernel_rfl) ?_
            simp only [M2.td]; repeat (go_big_quiet_step (fail))
            with_reducible refine wpQuiet_nil ?_
            with_reducible refine M2.mln ?_
            with_reducible refine M2.mle (by decide) ?_
            go_wp2_with (fail)
            refine M2.MixQ.mk trivial ?_; with_reducible refine M2.mln ?_
            go_wp2
            (try simp only [Exit.inBlock, Exit.then])
            refine bodyPost_ret (v := ?rv76) ?rh76 rfl ?rp76
            case rh76 => (simp only [results, show Tryz.f155.results = #[.tmp 4, .cell 5 109] from rfl]; go_simp; rfl)
            exact ⟨_, rfl, ovA, Own.mono (Own.ovw ho3 (by exact szA) (by exact szA)) (by exact szA)⟩
    · have hw1 : 0 < (width : Int) := by omega
      have c' : (lead : Int) ≤ (L : Int) := by omega
      go_enter Tryz.func155, Tryz.ntmps155; go_wp2
      go_loop [8] (fun i => ∃ (k : Nat), k ≤ L ∧ i = .int .i64 k) (fun i => (64 - intOf i).toNat)
      case atStart => exact ⟨0, Nat.zero_le _, rfl⟩
      case round =>
       obtain ⟨k, hk, rfl⟩ := hrel; by_cases hlt : k < L
       · have hE := bit0_e hd (HZ.out k hlt); go_wp2
         go_round
         case rel => exact ⟨k + 1, by omega, by go_num⟩
         case measure => simp [intOf]; omega
       · obtain rfl : L = k := by omega
         have hE := bit1_e hd HZ1.out; go_wp2; clear hE
         go_loop [9] (fun i => ∃ (E : Nat), 64 - T ≤ E ∧ E ≤ 64 ∧ i = .int .i64 E) (fun i => (intOf i).toNat)
         case atStart => exact ⟨64, by omega, Nat.le_refl _, rfl⟩
         case round =>
          obtain ⟨E, hE1, hE2, rfl⟩ := hrel; by_cases hlt2 : 64 - E < T
          · have hE := bit0_e hd (HT.out (64 - E) hlt2); go_wp2
            go_round
            case rel => exact ⟨E - 1, by omega, by omega, by go_num⟩
            case measure => simp [intOf]; omega
          · have hET : 64 - E = T := by omega
            have hE := bit1_e hd (show d.testBit (64 - E) = true by rw [hET]; exact HT1.out); clear hE1 hlt2 hlt hk; have HET := hid hET; clear hET; have hSh := HSH.out E HET.out; have hE9 : bits .and .u64 (D : Int) 1 = 1 := by rw [← hSh]; exact hE
            have hES : (E : Int) - ((L : Nat) : Int) = (S : Int) := HES.out E hE2 HET.out; have HE2 : 64 ≤ E + T := by have := HET.out; omega
            have HE3 : E + T ≤ 64 := by have := HET.out; omega
            have HP5 : Hid (∀ (W : World) (lv : Value), OwnT (w.heap.size + 1 + 1) W lv [true, true] → Ov ((w.alloc (.cells #[.bool true, .int .u64  (v : Nat), .int .u8  (lead : Nat), .int .u8  (width : Nat)] 109)).alloc (.cells #[.bool false, .int .u64  0, .int .u8  0, .int .u8  0] 109)) W → Calls Tryz.prog 160 #[lv, .int .u64 ((L : Nat) : Int), .int .i64 5] W (PutL ((w.alloc (.cells #[.bool true, .int .u64  (v : Nat), .int .u8  (lead : Nat), .int .u8  (width : Nat)] 109)).alloc (.cells #[.bool false, .int .u64  0, .int .u8  0, .int .u8  0] 109)) (w.heap.size + 1 + 1) ([true, true] ++ num L 5))) :=
             hid (fun W lv h1 h2 => rput_i h1 h2 (by exact szA) (OwnT.base_le h1 (by simp)) (by simp) L 5 (by omega) (by omega) ((L : Nat) : Int) 5 rfl rfl)
            have HP6 : Hid (∀ (W : World) (lv : Value), OwnT (w.heap.size + 1 + 1) W lv ([true, true] ++ num L 5) → Ov ((w.alloc (.cells #[.bool true, .int .u64  (v : Nat), .int .u8  (lead : Nat), .int .u8  (width : Nat)] 109)).alloc (.cells #[.bool false, .int .u64  0, .int .u8  0, .int .u8  0] 109)) W → Calls Tryz.prog 160 #[lv, .int .u64 ((R : Nat) : Int), .int .i64 6] W (PutL ((w.alloc (.cells #[.bool true, .int .u64  (v : Nat), .int .u8  (lead : Nat), .int .u8  (width : Nat)] 109)).alloc (.cells #[.bool false, .int .u64  0, .int .u8  0, .int .u8  0] 109)) (w.heap.size + 1 + 1) ([true, true] ++ num L 5 ++ num R 6))) :=
             hid (fun W lv h1 h2 => rput_i h1 h2 (by exact szA) (OwnT.base_le h1 (by simp)) (by simp [nml]) R 6 (by omega) (by omega) R 6 rfl rfl)
            have HP7 : Hid (∀ (W : World) (lv : Value), OwnT (w.heap.size + 1 + 1) W lv ([true, true] ++ num L 5 ++ num R 6) → Ov ((w.alloc (.cells #[.bool true, .int .u64  (v : Nat), .int .u8  (lead : Nat), .int .u8  (width : Nat)] 109)).alloc (.cells #[.bool false, .int .u64  0, .int .u8  0, .int .u8  0] 109)) W → Calls Tryz.prog 160 #[lv, .int .u64 ((D : Nat) : Int), .int .i64 ((S : Nat) : Int)] W (PutL ((w.alloc (.cells #[.bool true, .int .u64  (v : Nat), .int .u8  (lead : Nat), .int .u8  (width : Nat)] 109)).alloc (.cells #[.bool false, .int .u64  0, .int .u8  0, .int .u8  0] 109)) (w.heap.size + 1 + 1) WW)) :=
             hid (fun W lv h1 h2 => by rw [← HWW.out]; exact rput_any h1 h2 (by exact szA) (OwnT.base_le h1 (by simp)) (by simp [nml]) D S (by omega) (by omega))
            have c9 : ¬ (E : Int) ≤ (lead : Int) + (width : Int) := by omega
            go_wp2_with (first | (at_builtin; refine wpList_append byte_elem tcs_len tcs_one rfl (.tmp 95) (.tmp 96) rfl (B := (w.alloc (.cells #[.bool true, .int .u64  (v : Nat), .int .u8  (lead : Nat), .int .u8  (width : Nat)] 109)).alloc (.cells #[.bool false, .int .u64  0, .int .u8  0, .int .u8  0] 109)) (xs := [true, true]) (Own.nil (base := w.heap.size + 1 + 1) ((w.alloc (.cells #[.bool true, .int .u64  (v : Nat), .int .u8  (lead : Nat), .int .u8  (width : Nat)] 109)).alloc (.cells #[.bool false, .int .u64  0, .int .u8  0, .int .u8  0] 109))) rfl rfl ovA ovA (by exact asA) (by exact asA) (by (repeat with_reducible refine Sl.drew ?_); refine Sl.lit_as (xs := [true, true]) tcs_len ?_ ?_ ?_ ?_ <;> first | rfl | (simp; done) | (simp [maxLen]; done) | (simp; omega)) (by simp only [List.length_append, List.length_cons, List.length_nil]; unfold maxLen; omega) (by simp only [List.length_append, List.length_cons, List.length_nil]; omega) ?_; intro v' x' ho0 _ _; rw [List.nil_append] at ho0) | (go_at_call 160; (with_reducible refine (HP5.out _ _ (by exact ownA ho0) (by unfold Ov; exact ovA)).mono ?_); rintro _ _ ⟨⟨e1, rfl⟩, lv1, rfl, ho1⟩) | (go_at_call 160; (with_reducible refine (HP6.out _ _ (by exact ownA ho1) (by unfold Ov; exact ovA)).mono ?_); rintro _ _ ⟨⟨e2, rfl⟩, lv2, rfl, ho2⟩) | (go_at_call 160; (with_reducible refine (HP7.out _ _ (by exact ownA ho2) (by unfold Ov; exact ovA)).mono ?_); rintro _ _ ⟨⟨e3, rfl⟩, lv3, rfl, ho3⟩))
            refine M2.wrm [3] 3 (by kernel_rfl) (by kernel_rfl) (by decide) ?_; simp only [M2.td]; with_reducible refine M2.mlq 3 (by kernel_rfl) ?_
            simp only [M2.td]; repeat (go_big_quiet_step (fail))
            with_reducible refine wpQuiet_nil ?_
            with_reducible refine M2.mln ?_
            with_reducible refine M2.mle (by decide) ?_
            go_wp2_with (fail)
            refine M2.MixQ.mk trivial ?_; with_reducible refine M2.mln ?_
            go_wp2
            (try simp only [Exit.inBlock, Exit.then])
            refine bodyPost_ret (v := ?rv77) ?rh77 rfl ?rp77
            case rh77 => (simp only [results, show Tryz.f155.results = #[.tmp 4, .cell 5 109] from rfl]; go_simp; rfl)
            exact ⟨_, rfl, ovA, Own.mono (Own.ovw ho3 (by exact szA) (by exact szA)) (by exact szA)⟩
  · obtain rfl : L = 31 := by rw [HAL.out]; omega
    have h31' : (31 : Int) < (Z : Int) := by omega
    have hmin : min (Z : Int) 31 = 31 := by omega
    rcases hcs with c | ⟨hw0, c⟩ | ⟨hw0, hlz0, c⟩
    · have c' : ¬ 0 < (width : Int) := by omega
      go_enter Tryz.func155, Tryz.ntmps155; go_wp2
      go_loop [8] (fun i => ∃ (k : Nat), k ≤ Z ∧ i = .int .i64 k) (fun i => (64 - intOf i).toNat)
      case atStart => exact ⟨0, Nat.zero_le _, rfl⟩
      case round =>
       obtain ⟨k, hk, rfl⟩ := hrel; by_cases hlt : k < Z
       · have hE := bit0_e hd (HZ.out k hlt); go_wp2
         go_round
         case rel => exact ⟨k + 1, by omega, by go_num⟩
         case measure => simp [intOf]; omega
       · obtain rfl : Z = k := by omega
         have hE := bit1_e hd HZ1.out; go_wp2; clear hE
         go_loop [9] (fun i => ∃ (E : Nat), 64 - T ≤ E ∧ E ≤ 64 ∧ i = .int .i64 E) (fun i => (intOf i).toNat)
         case atStart => exact ⟨64, by omega, Nat.le_refl _, rfl⟩
         case round =>
          obtain ⟨E, hE1, hE2, rfl⟩ := hrel; by_cases hlt2 : 64 - E < T
          · have hE := bit0_e hd (HT.out (64 - E) hlt2); go_wp2
            go_round
            case rel => exact ⟨E - 1, by omega, by omega, by go_num⟩
            case measure => simp [intOf]; omega
          · have hET : 64 - E = T := by omega
            have hE := bit1_e hd (show d.testBit (64 - E) = true by rw [hET]; exact HT1.out); clear hE1 hlt2 hlt hk; have HET := hid hET; clear hET; have hSh := HSH.out E HET.out; have hE9 : bits .and .u64 (D : Int) 1 = 1 := by rw [← hSh]; exact hE
            have hES : (E : Int) - 31 = (S : Int) := HES.out E hE2 HET.out; have HE2 : 64 ≤ E + T := by have := HET.out; omega
            have HE3 : E + T ≤ 64 := by have := HET.out; omega
            have HP5 : Hid (∀ (W : World) (lv : Value), OwnT (w.heap.size + 1 + 1) W lv [true, true] → Ov ((w.alloc (.cells #[.bool true, .int .u64  (v : Nat), .int .u8  (lead : Nat), .int .u8  (width : Nat)] 109)).alloc (.cells #[.bool false, .int .u64  0, .int .u8  0, .int .u8  0] 109)) W → Calls Tryz.prog 160 #[lv, .int .u64 31, .int .i64 5] W (PutL ((w.alloc (.cells #[.bool true, .int .u64  (v : Nat), .int .u8  (lead : Nat), .int .u8  (width : Nat)] 109)).alloc (.cells #[.bool false, .int .u64  0, .int .u8  0, .int .u8  0] 109)) (w.heap.size + 1 + 1) ([true, true] ++ num 31 5))) :=
             hid (fun W lv h1 h2 => rput_i h1 h2 (by exact szA) (OwnT.base_le h1 (by simp)) (by simp) 31 5 (by omega) (by omega) 31 5 rfl rfl)
            have HP6 : Hid (∀ (W : World) (lv : Value), OwnT (w.heap.size + 1 + 1) W lv ([true, true] ++ num 31 5) → Ov ((w.alloc (.cells #[.bool true, .int .u64  (v : Nat), .int .u8  (lead : Nat), .int .u8  (width : Nat)] 109)).alloc (.cells #[.bool false, .int .u64  0, .int .u8  0, .int .u8  0] 109)) W → Calls Tryz.prog 160 #[lv, .int .u64 ((R : Nat) : Int), .int .i64 6] W (PutL ((w.alloc (.cells #[.bool true, .int .u64  (v : Nat), .int .u8  (lead : Nat), .int .u8  (width : Nat)] 109)).alloc (.cells #[.bool false, .int .u64  0, .int .u8  0, .int .u8  0] 109)) (w.heap.size + 1 + 1) ([true, true] ++ num 31 5 ++ num R 6))) :=
             hid (fun W lv h1 h2 => rput_i h1 h2 (by exact szA) (OwnT.base_le h1 (by simp)) (by simp [nml]) R 6 (by omega) (by omega) R 6 rfl rfl)
            have HP7 : Hid (∀ (W : World) (lv : Value), OwnT (w.heap.size + 1 + 1) W lv ([true, true] ++ num 31 5 ++ num R 6) → Ov ((w.alloc (.cells #[.bool true, .int .u64  (v : Nat), .int .u8  (lead : Nat), .int .u8  (width : Nat)] 109)).alloc (.cells #[.bool false, .int .u64  0, .int .u8  0, .int .u8  0] 109)) W → Calls Tryz.prog 160 #[lv, .int .u64 ((D : Nat) : Int), .int .i64 ((S : Nat) : Int)] W (PutL ((w.alloc (.cells #[.bool true, .int .u64  (v : Nat), .int .u8  (lead : Nat), .int .u8  (width : Nat)] 109)).alloc (.cells #[.bool false, .int .u64  0, .int .u8  0, .int .u8  0] 109)) (w.heap.size + 1 + 1) WW)) :=
             hid (fun W lv h1 h2 => by rw [← HWW.out]; exact rput_any h1 h2 (by exact szA) (OwnT.base_le h1 (by simp)) (by simp [nml]) D S (by omega) (by omega))
            skip
            go_wp2_with (first | (at_builtin; refine wpList_append byte_elem tcs_len tcs_one rfl (.tmp 95) (.tmp 96) rfl (B := (w.alloc (.cells #[.bool true, .int .u64  (v : Nat), .int .u8  (lead : Nat), .int .u8  (width : Nat)] 109)).alloc (.cells #[.bool false, .int .u64  0, .int .u8  0, .int .u8  0] 109)) (xs := [true, true]) (Own.nil (base := w.heap.size + 1 + 1) ((w.alloc (.cells #[.bool true, .int .u64  (v : Nat), .int .u8  (lead : Nat), .int .u8  (width : Nat)] 109)).alloc (.cells #[.bool false, .int .u64  0, .int .u8  0, .int .u8  0] 109))) rfl rfl ovA ovA (by exact asA) (by exact asA) (by (repeat with_reducible refine Sl.drew ?_); refine Sl.lit_as (xs := [true, true]) tcs_len ?_ ?_ ?_ ?_ <;> first | rfl | (simp; done) | (simp [maxLen]; done) | (simp; omega)) (by simp only [List.length_append, List.length_cons, List.length_nil]; unfold maxLen; omega) (by simp only [List.length_append, List.length_cons, List.length_nil]; omega) ?_; intro v' x' ho0 _ _; rw [List.nil_append] at ho0) | (go_at_call 160; (with_reducible refine (HP5.out _ _ (by exact ownA ho0) (by unfold Ov; exact ovA)).mono ?_); rintro _ _ ⟨⟨e1, rfl⟩, lv1, rfl, ho1⟩) | (go_at_call 160; (with_reducible refine (HP6.out _ _ (by exact ownA ho1) (by unfold Ov; exact ovA)).mono ?_); rintro _ _ ⟨⟨e2, rfl⟩, lv2, rfl, ho2⟩) | (go_at_call 160; (with_reducible refine (HP7.out _ _ (by exact ownA ho2) (by unfold Ov; exact ovA)).mono ?_); rintro _ _ ⟨⟨e3, rfl⟩, lv3, rfl, ho3⟩))
            refine M2.wrm [3] 3 (by kernel_rfl) (by kernel_rfl) (by decide) ?_; simp only [M2.td]; with_reducible refine M2.mlq 3 (by kernel_rfl) ?_
            simp only [M2.td]; repeat (go_big_quiet_step (fail))
            with_reducible refine wpQuiet_nil ?_
            with_reducible refine M2.mln ?_
            with_reducible refine M2.mle (by decide) ?_
            go_wp2_with (fail)
            refine M2.MixQ.mk trivial ?_; with_reducible refine M2.mln ?_
            go_wp2
            (try simp only [Exit.inBlock, Exit.then])
            refine bodyPost_ret (v := ?rv78) ?rh78 rfl ?rp78
            case rh78 => (simp only [results, show Tryz.f155.results = #[.tmp 4, .cell 5 109] from rfl]; go_simp; rfl)
            exact ⟨_, rfl, ovA, Own.mono (Own.ovw ho3 (by exact szA) (by exact szA)) (by exact szA)⟩
    · have hw1 : 0 < (width : Int) := by omega
      have c' : ¬ (lead : Int) ≤ (Z : Int) := by omega
      go_enter Tryz.func155, Tryz.ntmps155; go_wp2
      go_loop [8] (fun i => ∃ (k : Nat), k ≤ Z ∧ i = .int .i64 k) (fun i => (64 - intOf i).toNat)
      case atStart => exact ⟨0, Nat.zero_le _, rfl⟩
      case round =>
       obtain ⟨k, hk, rfl⟩ := hrel; by_cases hlt : k < Z
       · have hE := bit0_e hd (HZ.out k hlt); go_wp2
         go_round
         case rel => exact ⟨k + 1, by omega, by go_num⟩
         case measure => simp [intOf]; omega
       · obtain rfl : Z = k := by omega
         have hE := bit1_e hd HZ1.out; go_wp2; clear hE
         go_loop [9] (fun i => ∃ (E : Nat), 64 - T ≤ E ∧ E ≤ 64 ∧ i = .int .i64 E) (fun i => (intOf i).toNat)
         case atStart => exact ⟨64, by omega, Nat.le_refl _, rfl⟩
         case round =>
          obtain ⟨E, hE1, hE2, rfl⟩ := hrel; by_cases hlt2 : 64 - E < T
          · have hE := bit0_e hd (HT.out (64 - E) hlt2); go_wp2
            go_round
            case rel => exact ⟨E - 1, by omega, by omega, by go_num⟩
            case measure => simp [intOf]; omega
          · have hET : 64 - E = T := by omega
            have hE := bit1_e hd (show d.testBit (64 - E) = true by rw [hET]; exact HT1.out); clear hE1 hlt2 hlt hk; have HET := hid hET; clear hET; have hSh := HSH.out E HET.out; have hE9 : bits .and .u64 (D : Int) 1 = 1 := by rw [← hSh]; exact hE
            have hES : (E : Int) - 31 = (S : Int) := HES.out E hE2 HET.out; have HE2 : 64 ≤ E + T := by have := HET.out; omega
            have HE3 : E + T ≤ 64 := by have := HET.out; omega
            have HP5 : Hid (∀ (W : World) (lv : Value), OwnT (w.heap.size + 1 + 1) W lv [true, true] → Ov ((w.alloc (.cells #[.bool true, .int .u64  (v : Nat), .int .u8  (lead : Nat), .int .u8  (width : Nat)] 109)).alloc (.cells #[.bool false, .int .u64  0, .int .u8  0, .int .u8  0] 109)) W → Calls Tryz.prog 160 #[lv, .int .u64 31, .int .i64 5] W (PutL ((w.alloc (.cells #[.bool true, .int .u64  (v : Nat), .int .u8  (lead : Nat), .int .u8  (width : Nat)] 109)).alloc (.cells #[.bool false, .int .u64  0, .int .u8  0, .int .u8  0] 109)) (w.heap.size + 1 + 1) ([true, true] ++ num 31 5))) :=
             hid (fun W lv h1 h2 => rput_i h1 h2 (by exact szA) (OwnT.base_le h1 (by simp)) (by simp) 31 5 (by omega) (by omega) 31 5 rfl rfl)
            have HP6 : Hid (∀ (W : World) (lv : Value), OwnT (w.heap.size + 1 + 1) W lv ([true, true] ++ num 31 5) → Ov ((w.alloc (.cells #[.bool true, .int .u64  (v : Nat), .int .u8  (lead : Nat), .int .u8  (width : Nat)] 109)).alloc (.cells #[.bool false, .int .u64  0, .int .u8  0, .int .u8  0] 109)) W → Calls Tryz.prog 160 #[lv, .int .u64 ((R : Nat) : Int), .int .i64 6] W (PutL ((w.alloc (.cells #[.bool true, .int .u64  (v : Nat), .int .u8  (lead : Nat), .int .u8  (width : Nat)] 109)).alloc (.cells #[.bool false, .int .u64  0, .int .u8  0, .int .u8  0] 109)) (w.heap.size + 1 + 1) ([true, true] ++ num 31 5 ++ num R 6))) :=
             hid (fun W lv h1 h2 => rput_i h1 h2 (by exact szA) (OwnT.base_le h1 (by simp)) (by simp [nml]) R 6 (by omega) (by omega) R 6 rfl rfl)
            have HP7 : Hid (∀ (W : World) (lv : Value), OwnT (w.heap.size + 1 + 1) W lv ([true, true] ++ num 31 5 ++ num R 6) → Ov ((w.alloc (.cells #[.bool true, .int .u64  (v : Nat), .int .u8  (lead : Nat), .int .u8  (width : Nat)] 109)).alloc (.cells #[.bool false, .int .u64  0, .int .u8  0, .int .u8  0] 109)) W → Calls Tryz.prog 160 #[lv, .int .u64 ((D : Nat) : Int), .int .i64 ((S : Nat) : Int)] W (PutL ((w.alloc (.cells #[.bool true, .int .u64  (v : Nat), .int .u8  (lead : Nat), .int .u8  (width : Nat)] 109)).alloc (.cells #[.bool false, .int .u64  0, .int .u8  0, .int .u8  0] 109)) (w.heap.size + 1 + 1) WW)) :=
             hid (fun W lv h1 h2 => by rw [← HWW.out]; exact rput_any h1 h2 (by exact szA) (OwnT.base_le h1 (by simp)) (by simp [nml]) D S (by omega) (by omega))
            skip
            go_wp2_with (first | (at_builtin; refine wpList_append byte_elem tcs_len tcs_one rfl (.tmp 95) (.tmp 96) rfl (B := (w.alloc (.cells #[.bool true, .int .u64  (v : Nat), .int .u8  (lead : Nat), .int .u8  (width : Nat)] 109)).alloc (.cells #[.bool false, .int .u64  0, .int .u8  0, .int .u8  0] 109)) (xs := [true, true]) (Own.nil (base := w.heap.size + 1 + 1) ((w.alloc (.cells #[.bool true, .int .u64  (v : Nat), .int .u8  (lead : Nat), .int .u8  (width : Nat)] 109)).alloc (.cells #[.bool false, .int .u64  0, .int .u8  0, .int .u8  0] 109))) rfl rfl ovA ovA (by exact asA) (by exact asA) (by (repeat with_reducible refine Sl.drew ?_); refine Sl.lit_as (xs := [true, true]) tcs_len ?_ ?_ ?_ ?_ <;> first | rfl | (simp; done) | (simp [maxLen]; done) | (simp; omega)) (by simp only [List.length_append, List.length_cons, List.length_nil]; unfold maxLen; omega) (by simp only [List.length_append, List.length_cons, List.length_nil]; omega) ?_; intro v' x' ho0 _ _; rw [List.nil_append] at ho0) | (go_at_call 160; (with_reducible refine (HP5.out _ _ (by exact ownA ho0) (by unfold Ov; exact ovA)).mono ?_); rintro _ _ ⟨⟨e1, rfl⟩, lv1, rfl, ho1⟩) | (go_at_call 160; (with_reducible refine (HP6.out _ _ (by exact ownA ho1) (by unfold Ov; exact ovA)).mono ?_); rintro _ _ ⟨⟨e2, rfl⟩, lv2, rfl, ho2⟩) | (go_at_call 160; (with_reducible refine (HP7.out _ _ (by exact ownA ho2) (by unfold Ov; exact ovA)).mono ?_); rintro _ _ ⟨⟨e3, rfl⟩, lv3, rfl, ho3⟩))
            refine M2.wrm [3] 3 (by kernel_rfl) (by kernel_rfl) (by decide) ?_; simp only [M2.td]; with_reducible refine M2.mlq 3 (by kernel_rfl) ?_
            simp only [M2.td]; repeat (go_big_quiet_step (fail))
            with_reducible refine wpQuiet_nil ?_
            with_reducible refine M2.mln ?_
            with_reducible refine M2.mle (by decide) ?_
            go_wp2_with (fail)
            refine M2.MixQ.mk trivial ?_; with_reducible refine M2.mln ?_
            go_wp2
            (try simp only [Exit.inBlock, Exit.then])
            refine bodyPost_ret (v := ?rv79) ?rh79 rfl ?rp79
            case rh79 => (simp only [results, show Tryz.f155.results = #[.tmp 4, .cell 5 109] from rfl]; go_simp; rfl)
            exact ⟨_, rfl, ovA, Own.mono (Own.ovw ho3 (by exact szA) (by exact szA)) (by exact szA)⟩
    · have hw1 : 0 < (width : Int) := by omega
      have c' : (lead : Int) ≤ (Z : Int) := by omega
      go_enter Tryz.func155, Tryz.ntmps155; go_wp2
      go_loop [8] (fun i => ∃ (k : Nat), k ≤ Z ∧ i = .int .i64 k) (fun i => (64 - intOf i).toNat)
      case atStart => exact ⟨0, Nat.zero_le _, rfl⟩
      case round =>
       obtain ⟨k, hk, rfl⟩ := hrel; by_cases hlt : k < Z
       · have hE := bit0_e hd (HZ.out k hlt); go_wp2
         go_round
         case rel => exact ⟨k + 1, by omega, by go_num⟩
         case measure => simp [intOf]; omega
       · obtain rfl : Z = k := by omega
         have hE := bit1_e hd HZ1.out; go_wp2; clear hE
         go_loop [9] (fun i => ∃ (E : Nat), 64 - T ≤ E ∧ E ≤ 64 ∧ i = .int .i64 E) (fun i => (intOf i).toNat)
         case atStart => exact ⟨64, by omega, Nat.le_refl _, rfl⟩
         case round =>
          obtain ⟨E, hE1, hE2, rfl⟩ := hrel; by_cases hlt2 : 64 - E < T
          · have hE := bit0_e hd (HT.out (64 - E) hlt2); go_wp2
            go_round
            case rel => exact ⟨E - 1, by omega, by omega, by go_num⟩
            case measure => simp [intOf]; omega
          · have hET : 64 - E = T := by omega
            have hE := bit1_e hd (show d.testBit (64 - E) = true by rw [hET]; exact HT1.out); clear hE1 hlt2 hlt hk; have HET := hid hET; clear hET; have hSh := HSH.out E HET.out; have hE9 : bits .and .u64 (D : Int) 1 = 1 := by rw [← hSh]; exact hE
            have hES : (E : Int) - 31 = (S : Int) := HES.out E hE2 HET.out; have HE2 : 64 ≤ E + T := by have := HET.out; omega
            have HE3 : E + T ≤ 64 := by have := HET.out; omega
            have HP5 : Hid (∀ (W : World) (lv : Value), OwnT (w.heap.size + 1 + 1) W lv [true, true] → Ov ((w.alloc (.cells #[.bool true, .int .u64  (v : Nat), .int .u8  (lead : Nat), .int .u8  (width : Nat)] 109)).alloc (.cells #[.bool false, .int .u64  0, .int .u8  0, .int .u8  0] 109)) W → Calls Tryz.prog 160 #[lv, .int .u64 31, .int .i64 5] W (PutL ((w.alloc (.cells #[.bool true, .int .u64  (v : Nat), .int .u8  (lead : Nat), .int .u8  (width : Nat)] 109)).alloc (.cells #[.bool false, .int .u64  0, .int .u8  0, .int .u8  0] 109)) (w.heap.size + 1 + 1) ([true, true] ++ num 31 5))) :=
             hid (fun W lv h1 h2 => rput_i h1 h2 (by exact szA) (OwnT.base_le h1 (by simp)) (by simp) 31 5 (by omega) (by omega) 31 5 rfl rfl)
            have HP6 : Hid (∀ (W : World) (lv : Value), OwnT (w.heap.size + 1 + 1) W lv ([true, true] ++ num 31 5) → Ov ((w.alloc (.cells #[.bool true, .int .u64  (v : Nat), .int .u8  (lead : Nat), .int .u8  (width : Nat)] 109)).alloc (.cells #[.bool false, .int .u64  0, .int .u8  0, .int .u8  0] 109)) W → Calls Tryz.prog 160 #[lv, .int .u64 ((R : Nat) : Int), .int .i64 6] W (PutL ((w.alloc (.cells #[.bool true, .int .u64  (v : Nat), .int .u8  (lead : Nat), .int .u8  (width : Nat)] 109)).alloc (.cells #[.bool false, .int .u64  0, .int .u8  0, .int .u8  0] 109)) (w.heap.size + 1 + 1) ([true, true] ++ num 31 5 ++ num R 6))) :=
             hid (fun W lv h1 h2 => rput_i h1 h2 (by exact szA) (OwnT.base_le h1 (by simp)) (by simp [nml]) R 6 (by omega) (by omega) R 6 rfl rfl)
            have HP7 : Hid (∀ (W : World) (lv : Value), OwnT (w.heap.size + 1 + 1) W lv ([true, true] ++ num 31 5 ++ num R 6) → Ov ((w.alloc (.cells #[.bool true, .int .u64  (v : Nat), .int .u8  (lead : Nat), .int .u8  (width : Nat)] 109)).alloc (.cells #[.bool false, .int .u64  0, .int .u8  0, .int .u8  0] 109)) W → Calls Tryz.prog 160 #[lv, .int .u64 ((D : Nat) : Int), .int .i64 ((S : Nat) : Int)] W (PutL ((w.alloc (.cells #[.bool true, .int .u64  (v : Nat), .int .u8  (lead : Nat), .int .u8  (width : Nat)] 109)).alloc (.cells #[.bool false, .int .u64  0, .int .u8  0, .int .u8  0] 109)) (w.heap.size + 1 + 1) WW)) :=
             hid (fun W lv h1 h2 => by rw [← HWW.out]; exact rput_any h1 h2 (by exact szA) (OwnT.base_le h1 (by simp)) (by simp [nml]) D S (by omega) (by omega))
            have c9 : ¬ (E : Int) ≤ (lead : Int) + (width : Int) := by omega
            go_wp2_with (first | (at_builtin; refine wpList_append byte_elem tcs_len tcs_one rfl (.tmp 95) (.tmp 96) rfl (B := (w.alloc (.cells #[.bool true, .int .u64  (v : Nat), .int .u8  (lead : Nat), .int .u8  (width : Nat)] 109)).alloc (.cells #[.bool false, .int .u64  0, .int .u8  0, .int .u8  0] 109)) (xs := [true, true]) (Own.nil (base := w.heap.size + 1 + 1) ((w.alloc (.cells #[.bool true, .int .u64  (v : Nat), .int .u8  (lead : Nat), .int .u8  (width : Nat)] 109)).alloc (.cells #[.bool false, .int .u64  0, .int .u8  0, .int .u8  0] 109))) rfl rfl ovA ovA (by exact asA) (by exact asA) (by (repeat with_reducible refine Sl.drew ?_); refine Sl.lit_as (xs := [true, true]) tcs_len ?_ ?_ ?_ ?_ <;> first | rfl | (simp; done) | (simp [maxLen]; done) | (simp; omega)) (by simp only [List.length_append, List.length_cons, List.length_nil]; unfold maxLen; omega) (by simp only [List.length_append, List.length_cons, List.length_nil]; omega) ?_; intro v' x' ho0 _ _; rw [List.nil_append] at ho0) | (go_at_call 160; (with_reducible refine (HP5.out _ _ (by exact ownA ho0) (by unfold Ov; exact ovA)).mono ?_); rintro _ _ ⟨⟨e1, rfl⟩, lv1, rfl, ho1⟩) | (go_at_call 160; (with_reducible refine (HP6.out _ _ (by exact ownA ho1) (by unfold Ov; exact ovA)).mono ?_); rintro _ _ ⟨⟨e2, rfl⟩, lv2, rfl, ho2⟩) | (go_at_call 160; (with_reducible refine (HP7.out _ _ (by exact ownA ho2) (by unfold Ov; exact ovA)).mono ?_); rintro _ _ ⟨⟨e3, rfl⟩, lv3, rfl, ho3⟩))
            refine M2.wrm [3] 3 (by kernel_rfl) (by kernel_rfl) (by decide) ?_; simp only [M2.td]; with_reducible refine M2.mlq 3 (by kernel_rfl) ?_
            simp only [M2.td]; repeat (go_big_quiet_step (fail))
            with_reducible refine wpQuiet_nil ?_
            with_reducible refine M2.mln ?_
            with_reducible refine M2.mle (by decide) ?_
            go_wp2_with (fail)
            refine M2.MixQ.mk trivial ?_; with_reducible refine M2.mln ?_
            go_wp2
            (try simp only [Exit.inBlock, Exit.then])
            refine bodyPost_ret (v := ?rv80) ?rh80 rfl ?rp80
            case rh80 => (simp only [results, show Tryz.f155.results = #[.tmp 4, .cell 5 109] from rfl]; go_simp; rfl)
            exact ⟨_, rfl, ovA, Own.mono (Own.ovw ho3 (by exact szA) (by exact szA)) (by exact szA)⟩
end
section
open Go.RowKit
section
variable {P : Program} {α : Type} {sz bytes : Nat} {cells : α → List Value} {t e : TypeId}
theorem wpList_appendB {ops : Array Oper} {rest : List Oper} {o : Oper} {a : Act} {Q : Exit → Act → World → Prop} (he : ElemOf P t e sz bytes) {w B x0 : World} {v : Value} {ys xs : List α}
    (hc : ∀ y, (cells y).length = sz) (h1c : ∀ y, ∀ u ∈ cells y, u.oneCell' = true) (hgd : o.guard = none) (s x : Operand)
    (ho : o.op = .call { callee := .builtin .append, args := #[s, x], argTypes := #[t, t] })
    (hown : Own B.heap.size e sz cells (over B x0) v ys) (hsv : a.eval s = v) {ad : Option Addr} {cap : Nat} (hxv : a.eval x = .slice ad xs.length cap)
    (hw1 : Ov (over B x0) w) (hs : Sl sz cells w ad cap xs)
    (hlen : ys.length + xs.length ≤ maxLen) (hby : (ys.length + xs.length) * bytes ≤ 140737488355328)
    (h : ∀ v' x, Own B.heap.size e sz cells (over B x) v' (ys ++ xs) → wpList P ops Q rest (a.put o.dst v') (over B x)) :
    wpList P ops Q (o :: rest) a w :=
  wpList_append he hc h1c hgd s x ho hown hsv hxv hw1 (over_trans ⟨x0, rfl⟩ hw1) (Nat.le_refl _) (by simp) hs hlen hby (fun v' x h1 _ _ => h v' x h1)
end
theorem rwrit_any (s : Vl) (hs : s.wf) (hsd : soundV s = true) (v : Nat) (hv : v < 18446744073709551616) (w : World) :
    Calls Tryz.prog 155 #[s.v, .int .u64 (v : Nat)] w (RwPost w (written s v).1 (written s v).2) := by
  cases hh : s.has
  · exact rwrit_new s hs hh v hv w
  · have hl := (soundV_has hsd hh).2.1; by_cases h0 : v ^^^ s.prev = 0
    · exact rwrit_same s hs hh v hv h0 w
    · cases hb : inBand s.lead s.width (v ^^^ s.prev)
      · exact rwrit_anew s hs hh hl v hv h0 hb w
      · exact rwrit_in s hs hh hl v hv h0 hb w
abbrev rxV (a : Option Addr) (n cap : Nat) (N : Int) (t : Vl) (e : Nat) : Value := .tuple #[bv a n cap N, t.v, .int .i64 (e : Nat)]
def RxOwn (w : World) (L : List Bool) (t : Vl) (en : Ending) (w' : World) : Prop :=
 ∃ a c, en = .returned (rxV a (pack L).length c L.length t 0) ∧ (∃ e, w' = over w e) ∧ OwnB w.heap.size w' (.slice a (pack L).length c) (pack L)
theorem rxput_own (l : List Bool) (hl : l.length ≤ 800000) (a : Option Addr) (cap : Nat) (s : Vl) (hs : s.wf) (hsd : soundV s = true) (v : Nat) (hv : v < 18446744073709551616) (w : World) (hb : SlB w a cap (pack l)) :
    Calls Tryz.prog 135 #[bv a (pack l).length cap l.length, s.v, .int .u64 (v : Nat)] w (RxOwn w (l ++ (written s v).1) (written s v).2) := by
  have H1 := hid (fun W hW => rsound_any (pack l) pack_lt (pkl (by omega)) l.length (by omega) a cap W hW); rw [spk] at H1; have H2 := hid (fun W => rxsound_any s hs W); rw [hsd] at H2; have HW := hid (fun W => rwrit_any s hs hsd v hv W); have HL := hid (fun W hW => rlist_any l (by omega) a cap W hW); have hwl := (written_len hsd hs hv).1; generalize (written s v).1 = wl at *; generalize (written s v).2 = t at *; obtain ⟨L, hL⟩ : ∃ L, l ++ wl = L := ⟨_, rfl⟩; have hLl : L.length ≤ 1000000 := by rw [← hL, List.length_append]; omega
  have HLL := hid hL; rw [hL]; have HO := hid (fun a cap W hW => rof_any L hLl a cap W hW); clear hL; obtain ⟨hs1, hs2, hs3⟩ := hs
  go_enter Tryz.func135, Tryz.ntmps135; go_wp2_with (first | (go_at_call 63; (with_reducible refine (H1.out _ (by exact slA hb)).mono ?_); rintro _ _ ⟨⟨e1, rfl⟩, rfl⟩) | (go_at_call 151; (with_reducible refine (H2.out _).mono ?_); rintro _ _ ⟨⟨e2, rfl⟩, rfl⟩) | (go_at_call 155; (with_reducible refine (HW.out _).mono ?_); rintro _ _ ⟨v3, rfl, ⟨e3, rfl⟩, ho3⟩; obtain ⟨a3, c3, rfl, s3⟩ := Own.slice tcs_len ho3) | (go_at_call 64; (with_reducible refine (HL.out _ (by exact slA hb)).mono ?_); rintro _ _ ⟨⟨e4, rfl⟩, v4, rfl, ho4⟩) | (at_builtin; refine wpList_appendB byte_elem tcs_len tcs_one rfl (.tmp 34) (.tmp 35) rfl ho4 rfl rfl ovA (by exact slA s3) (by unfold maxLen; omega) (by omega) ?_; intro v' x' hown'; rw [HLL.out] at hown'; obtain ⟨a5, c5, rfl, s5⟩ := Own.slice tcs_len hown'))
  obtain ⟨F, hF⟩ : ∃ F, F = [w.heap.size + 1 + 1, w.heap.size + 1 + 1 + 1] := ⟨_, rfl⟩; have n1 : w.heap.size + 1 + 1 ∈ F := by rw [hF]; simp
  have n2 : w.heap.size + 1 + 1 + 1 ∈ F := by rw [hF]; simp
  have n3 : w.heap.size + 1 + 1 + 1 + 1 + e1.heap.size + e2.heap.size + e3.heap.size ∉ F := by rw [hF]; simp; omega
  clear hF; refine M2.wrz (fun w' => ∃ m : Mut, w' = chg F _ m) [1, 3, 4] 6 (by kernel_rfl) (by kernel_rfl) (by decide) (chg_of (Chg.refl _ _)) ?_; simp only [M2.td]; with_reducible refine M2.mlq 1 (by kernel_rfl) ?_
  simp only [M2.td]; repeat (go_big_quiet_step (fail))
  with_reducible refine wpQuiet_nil ?_
  with_reducible refine M2.mle (by decide) ?_
  go_wp2_with ((go_at_call 65; (with_reducible refine (HO.out _ _ _ (by exact slA s5)).mono ?_); rintro _ _ ⟨⟨e6, rfl⟩, v6, rfl, a6, c6, rfl, ho6⟩))
  refine M2.MixQ.mk (chg_of (by exact chA)) ?_; with_reducible refine M2.mlq 1 (by kernel_rfl) ?_
  simp only [M2.td]; repeat (go_big_quiet_step (fail))
  with_reducible refine wpQuiet_nil ?_
  with_reducible refine M2.mle (by decide) ?_
  go_wp2_with (fail)
  refine M2.MixQ.mk (chg_of (by exact chA)) ?_; with_reducible refine M2.mle (by decide) ?_
  go_wp2_with (fail)
  refine M2.MixQ.mk (chg_of (by exact chA)) ?_; with_reducible refine M2.mlq 1 (by kernel_rfl) ?_
  simp only [M2.td]; repeat (go_big_quiet_step (fail))
  with_reducible refine wpQuiet_nil ?_
  with_reducible refine M2.mln ?_
  with_reducible refine M2.mln ?_
  go_wp2
  (try simp only [Exit.inBlock, Exit.then])
  refine bodyPost_ret (v := ?rv83) ?rh83 rfl ?rp83
  case rh83 => (simp only [results, show Tryz.f135.results = #[.cell 6 49, .cell 7 109, .tmp 8] from rfl]; go_simp; rfl)
  refine ⟨a6, c6, rfl, ovA, ?_⟩
  (repeat with_reducible refine Own.drew ?_)
  exact Own.mono (Own.ovw ho6 (by exact szA) (by exact szA)) (by exact szA)
end
end Go.Proofs.YtnffcckhdedhpaaGreatDoor
