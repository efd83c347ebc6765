import Derived.Test.YtnffcckhdedhpaaGreatDoorGC
import Derived.Test.YtnffcckhdedhpaaGreatDoorGA
import Derived.Test.YtnffcckhdedhpaaGreatDoorGB
import Derived.Test.YtnffcckhdedhpaaGreatDoorGN
import Derived.Test.YtnffcckhdedhpaaGreatDoorGD
namespace Go.Proofs.YtnffcckhdedhpaaGreatDoor
set_option linter.unusedVariables false
set_option linter.unusedSimpArgs false
set_option maxRecDepth 100000
set_option maxHeartbeats 4000000
section
open Go.RowKit
def PutL (B : World) (base : Nat) (xs : List Bool) (en : Ending) (w' : World) : Prop := (∃ e, w' = over B e) ∧ ∃ v, en = .returned v ∧ OwnT base w' v xs
theorem OwnT.base_le {base : Nat} {w : World} {v : Value} {xs : List Bool} (h : OwnT base w v xs) (h0 : 0 < xs.length) : base ≤ w.heap.size := by
 obtain ⟨g, cap, _, h2, h3, _⟩ := Own.open_ tcs_len h h0; omega
theorem and1_64 (x : Nat) (h : x < 18446744073709551616) : bits .and .u64 (x : Int) 1 = ((x % 2 : Nat) : Int) := by
 have := and64 x 1 h (by decide)
 rwa [Nat.and_one_is_mod] at this
theorem bit_pp (v k : Nat) : (v >>> k) % 2 = (v.testBit k).toNat := by
 rw [Nat.testBit_eq_decide_div_mod_eq, Nat.shiftRight_eq_div_pow]; rcases Nat.mod_two_eq_zero_or_one (v / 2 ^ k) with h | h <;> rw [h] <;> rfl
theorem bit_e (v k : Nat) (hv : v < 18446744073709551616) : bits .and .u64 ((v : Int) / (2 : Int) ^ k) 1 = (((v.testBit k).toNat : Nat) : Int) := by
 rw [cast_shr, and1_64 _ (shr_lt hv), bit_pp]
theorem num_snoc (v k W : Nat) (hk : k + 1 ≤ W) : num (v >>> (k + 1)) (W - (k + 1)) ++ [v.testBit k] = num (v >>> k) (W - k) := by
 have h1 := num_split (v >>> k) (W - (k + 1)) 1; rw [show W - (k + 1) + 1 = W - k by omega] at h1; rw [h1, ← Nat.shiftRight_add]; simp [num, Nat.testBit_shiftRight]
theorem rput_any {B w : World} {base : Nat} {lv : Value} {xs : List Bool} (h : OwnT base w lv xs) (hB : Ov B w) (hbB : B.heap.size ≤ base) (hbw : base ≤ w.heap.size) (hx : xs.length ≤ 1000000) (v W : Nat) (hv : v < 18446744073709551616) (hW : W ≤ 64) :
    Calls Tryz.prog 160 #[lv, .int .u64 (v : Nat), .int .i64 (W : Nat)] w (PutL B base (xs ++ num v W)) := by
  go_enter Tryz.func160, Tryz.ntmps160; go_wp2
  go_loopw [0, 7] (fun o i wr => ∃ (k : Nat), k ≤ W ∧ i = .int .i64 ((k : Int) - 1) ∧ Ov B wr ∧ base ≤ wr.heap.size ∧ OwnT base wr o (xs ++ num (v >>> k) (W - k))) (fun _ i _ => (intOf i + 1).toNat)
  case atStart =>
   refine ⟨W, Nat.le_refl _, rfl, hB, hbw, ?_⟩; rw [Nat.sub_self, num_zero, List.append_nil]; exact h
  case round =>
   obtain ⟨k, hk, rfl, ⟨e, rfl⟩, hbs, hown⟩ := hrel; by_cases hlt : 0 < k
   · obtain ⟨k, rfl⟩ : ∃ j, k = j + 1 := ⟨k - 1, by omega⟩; have hE := bit_e v k hv; have hN := hid (num_snoc v k W hk); obtain ⟨Y, hY⟩ : ∃ Y, v.testBit k = Y := ⟨_, rfl⟩; rw [hY] at hE hN; have hYl := toNat_le1 Y; obtain ⟨XS, hXS⟩ : ∃ XS, xs ++ num (v >>> (k + 1)) (W - (k + 1)) = XS := ⟨_, rfl⟩; rw [hXS] at hown; have HXS := hid hXS; have hxl : XS.length ≤ 2000000 := by rw [← hXS, List.length_append, nml]; omega
     have hbB' := hbB; clear hY hXS; go_wp2_with (at_builtin; refine wpList_append byte_elem tcs_len tcs_one rfl (.tmp 14) (.tmp 21) rfl (B := B) (xs := [Y]) hown rfl rfl ovA ovA (by exact asA) (by exact asA) (by (repeat with_reducible refine Sl.drew ?_); exact Sl.one_new (y := Y) (by simp; try omega)) (by exact lnA) (by exact lnB) ?_; intro v' x' hown' _ _)
     go_roundw
     case rel =>
      have hbl := OwnT.base_le hown' (by simp); rw [← HXS.out, List.append_assoc, hN.out] at hown'; exact ⟨k, by omega, by go_num, ovA, hbl, hown'⟩
     case measure => simp [intOf] <;> omega
   · obtain rfl : k = 0 := by omega
     go_wp2; go_ret
     rw [Nat.shiftRight_zero, Nat.sub_zero] at hown; exact ⟨ovA, _, rfl, hown⟩
theorem rput_i {B w : World} {base : Nat} {lv : Value} {xs : List Bool} (h : OwnT base w lv xs) (hB : Ov B w) (hbB : B.heap.size ≤ base) (hbw : base ≤ w.heap.size) (hx : xs.length ≤ 1000000) (v W : Nat) (hv : v < 18446744073709551616) (hW : W ≤ 64) (vi Wi : Int) (hvi : vi = v) (hWi : Wi = W) :
    Calls Tryz.prog 160 #[lv, .int .u64 vi, .int .i64 Wi] w (PutL B base (xs ++ num v W)) := by
  subst hvi hWi; exact rput_any h hB hbB hbw hx v W hv hW
/-! ### written -/
def RwPost (w : World) (L : List Bool) (t : Vl) (en : Ending) (w' : World) : Prop := ∃ v, en = .returned (.tuple #[v, t.v]) ∧ (∃ e, w' = over w e) ∧ OwnT w.heap.size w' v L
theorem rwrit_new (s : Vl) (hs : s.wf) (hh : s.has = false) (v : Nat) (hv : v < 18446744073709551616) (w : World) :
    Calls Tryz.prog 155 #[s.v, .int .u64 (v : Nat)] w (RwPost w (written s v).1 (written s v).2) := by
  obtain ⟨has, prev, lead, width⟩ := s; simp only at hh; subst hh; obtain ⟨h1, h2, h3⟩ := hs; simp only at h1 h2 h3; rw [show written ⟨false, prev, lead, width⟩ v = (num v 64, ⟨true, v, 0, 0⟩) from rfl]; have HP := hid (fun W => rput_i (B := W) (base := W.heap.size) (w := W) (Own.nil W) (ovs W) (Nat.le_refl _) (Nat.le_refl _) (by simp) v 64 hv (by omega) v 64 rfl rfl)
  go_enter Tryz.func155, Tryz.ntmps155; go_wp2_with (go_at_call 160; (with_reducible refine (HP.out _).mono ?_); rintro _ _ ⟨⟨e, rfl⟩, lv, rfl, ho⟩; rw [List.nil_append] at ho)
  (try simp only [Exit.inBlock, Exit.then])
  refine bodyPost_ret (v := ?rv68) ?rh68 rfl ?rp68
  case rh68 => (simp only [results, show Tryz.f155.results = #[.tmp 4, .cell 5 109] from rfl]; go_simp; rfl)
  exact ⟨_, rfl, ovA, Own.mono (Own.ovw ho (by simp) (Nat.le_refl _)) (by first | (simp; done) | (simp; omega))⟩
theorem rwrit_same (s : Vl) (hs : s.wf) (hh : s.has = true) (v : Nat) (hv : v < 18446744073709551616) (h0 : v ^^^ s.prev = 0) (w : World) :
    Calls Tryz.prog 155 #[s.v, .int .u64 (v : Nat)] w (RwPost w (written s v).1 (written s v).2) := by
  obtain ⟨has, prev, lead, width⟩ := s; simp only at hh; subst hh; obtain ⟨h1, h2, h3⟩ := hs; simp only at h1 h2 h3; simp only at h0; have hX := xor64 v prev hv h1; rw [show written ⟨true, prev, lead, width⟩ v = ([false], ⟨true, v, lead, width⟩) by simp [written, h0]]; rw [h0] at hX; clear h0
  go_enter Tryz.func155, Tryz.ntmps155; go_wp2; refine M2.wrm [1, 2, 5] 5 (by kernel_rfl) (by kernel_rfl) (by decide) ?_; simp only [M2.td]; with_reducible refine M2.mlq 1 (by kernel_rfl) ?_
  simp only [M2.td]; repeat (go_big_quiet_step (fail))
  with_reducible refine wpQuiet_nil ?_
  with_reducible refine M2.mle (by decide) ?_
  go_wp2_with (fail)
  refine M2.MixQ.mk ovA ?_; with_reducible refine M2.mle (by decide) ?_
  go_wp2_with ((at_builtin; refine wpList_append byte_elem tcs_len tcs_one rfl (.tmp 27) (.tmp 28) rfl (B := (w.alloc (.cells #[.bool true, .int .u64  (v : Nat), .int .u8  (lead : Nat), .int .u8  (width : Nat)] 109)).alloc (.cells #[.bool false, .int .u64  0, .int .u8  0, .int .u8  0] 109)) (xs := [false]) (Own.nil (base := w.heap.size + 1 + 1) ((w.alloc (.cells #[.bool true, .int .u64  (v : Nat), .int .u8  (lead : Nat), .int .u8  (width : Nat)] 109)).alloc (.cells #[.bool false, .int .u64  0, .int .u8  0, .int .u8  0] 109))) rfl rfl ovA ovA (by exact asA) (by exact asA) (by (repeat with_reducible refine Sl.drew ?_); exact Sl.one_new (y := false) (by simp; try omega)) (by exact lnA) (by exact lnB) ?_; intro v' x' hown' _ _))
  refine M2.MixQ.mk ovA ?_; with_reducible refine M2.mlq 2 (by kernel_rfl) ?_
  simp only [M2.td]; repeat (go_big_quiet_step (fail))
  with_reducible refine wpQuiet_nil ?_
  with_reducible refine M2.mln ?_
  with_reducible refine M2.mle (by decide) ?_
  go_wp2_with (fail)
  refine M2.MixQ.mk trivial ?_; with_reducible refine M2.mln ?_
  go_wp2
  (try simp only [Exit.inBlock, Exit.then])
  refine bodyPost_ret (v := ?rv69) ?rh69 rfl ?rp69
  case rh69 => (simp only [results, show Tryz.f155.results = #[.tmp 4, .cell 5 109] from rfl]; go_simp; rfl)
  exact ⟨_, rfl, ovA, Own.mono (Own.ovw hown' (by exact szA) (by exact szA)) (by exact szA)⟩
theorem bit0_e {d k : Nat} (hd : d < 18446744073709551616) (h : d.testBit k = false) : bits .and .u64 ((d : Int) / (2 : Int) ^ k) 1 = 0 := by rw [bit_e d k hd, h]; rfl
theorem bit1_e {d k : Nat} (hd : d < 18446744073709551616) (h : d.testBit k = true) : bits .and .u64 ((d : Int) / (2 : Int) ^ k) 1 = 1 := by rw [bit_e d k hd, h]; rfl
theorem rwrit_in (s : Vl) (hs : s.wf) (hh : s.has = true) (hl : s.lead + s.width ≤ 64) (v : Nat) (hv : v < 18446744073709551616) (h0 : v ^^^ s.prev ≠ 0) (hb : inBand s.lead s.width (v ^^^ s.prev) = true) (w : World) :
    Calls Tryz.prog 155 #[s.v, .int .u64 (v : Nat)] w (RwPost w (written s v).1 (written s v).2) := by
  have hwr : written s v = ([true, false] ++ num ((v ^^^ s.prev) >>> (64 - s.lead - s.width)) s.width, { s with prev := v }) := by unfold written; rw [if_pos hh, if_neg h0, if_pos hb]
  rw [hwr]; clear hwr; obtain ⟨has, prev, lead, width⟩ := s; simp only at hh; subst hh; obtain ⟨h1, h2, h3⟩ := hs; simp only at h1 h2 h3; simp only at h0 hb hl; have hd : v ^^^ prev < 18446744073709551616 := Nat.xor_lt_two_pow (n := 64) hv h1; have hX := xor64 v prev hv h1; generalize hdd : v ^^^ prev = d at *; clear hdd; have hlz := lz_spec hd h0; have htz := tz_spec hd h0; have hlt0 := lz_tz hd h0; have hA := around_le hd h0; have h0' : ((d : Int) == 0) = false := by simp; omega
  have hal : aLead d = min (lz d) 31 := rfl; obtain ⟨D, hD⟩ : ∃ D, d >>> (64 - lead - width) = D := ⟨_, rfl⟩; have hDl : D < 18446744073709551616 := by rw [← hD]; exact shr_lt hd
  have hSh : (d : Int) / (2 : Int) ^ (64 - lead - width) = (D : Int) := by rw [cast_shr, hD]
  rw [hD]; simp only [inBand, Bool.and_eq_true, decide_eq_true_eq] at hb; obtain ⟨⟨b1, b2⟩, b3⟩ := hb; generalize lz d = Z at *; generalize tz d = T at *; obtain ⟨z1, z2, z3⟩ := hlz; obtain ⟨t1, t2, t3⟩ := htz; have HZ := hid z3; have HZ1 := hid z2; have HT := hid t3; have HT1 := hid t2; clear z3 z2 t3 t2 hD hA hal h0; have b4 : 64 ≤ lead + width + T := by omega
  have b5 : (lead : Int) ≤ (Z : Int) := by omega
  have b6 : 0 < (width : Int) := by omega
  go_enter Tryz.func155, Tryz.ntmps155; go_wp2
  go_loop [8] (fun i => ∃ (k : Nat), k ≤ Z ∧ i = .int .i64 k) (fun i => (64 - intOf i).toNat)
  case atStart => exact ⟨0, Nat.zero_le _, rfl⟩
  case round =>
   obtain ⟨k, hk, rfl⟩ := hrel; by_cases hlt : k < Z
   · have hE := bit0_e hd (HZ.out k hlt); go_wp2
     go_round
     case rel => exact ⟨k + 1, by omega, by go_num⟩
     case measure => simp [intOf]; omega
   · obtain rfl : Z = k := by omega
     have hE := bit1_e hd HZ1.out; go_wp2; clear hE
     go_loop [9] (fun i => ∃ (E : Nat), 64 - T ≤ E ∧ E ≤ 64 ∧ i = .int .i64 E) (fun i => (intOf i).toNat)
     case atStart => exact ⟨64, by omega, Nat.le_refl _, rfl⟩
     case round =>
      obtain ⟨E, hE1, hE2, rfl⟩ := hrel; by_cases hlt2 : 64 - E < T
      · have hE := bit0_e hd (HT.out (64 - E) hlt2); go_wp2
        go_round
        case rel => exact ⟨E - 1, by omega, by omega, by go_num⟩
        case measure => simp [intOf]; omega
      · have hET : 64 - E = T := by omega
        have hE := bit1_e hd (show d.testBit (64 - E) = true by rw [hET]; exact HT1.out); clear hE1 hlt2 hlt hk; have HET := hid hET; clear hET; have b7 : (E : Int) ≤ (lead : Int) + (width : Int) := by have := HET.out; omega
        go_wp2_with (at_builtin; refine wpList_append byte_elem tcs_len tcs_one rfl (.tmp 70) (.tmp 71) rfl (B := (w.alloc (.cells #[.bool true, .int .u64  (v : Nat), .int .u8  (lead : Nat), .int .u8  (width : Nat)] 109)).alloc (.cells #[.bool false, .int .u64  0, .int .u8  0, .int .u8  0] 109)) (xs := [true, false]) (Own.nil (base := w.heap.size + 1 + 1) ((w.alloc (.cells #[.bool true, .int .u64  (v : Nat), .int .u8  (lead : Nat), .int .u8  (width : Nat)] 109)).alloc (.cells #[.bool false, .int .u64  0, .int .u8  0, .int .u8  0] 109))) rfl rfl ovA ovA (by exact asA) (by exact asA) (by (repeat with_reducible refine Sl.drew ?_); refine Sl.lit_as (xs := [true, false]) tcs_len ?_ ?_ ?_ ?_ <;> first | rfl | (simp; done) | (simp [maxLen]; done) | (simp; omega)) (by simp only [List.length_append, List.length_cons, List.length_nil]; unfold maxLen; omega) (by simp only [List.length_append, List.length_cons, List.length_nil]; omega) ?_; intro v' x' hown' _ _; rw [List.nil_append] at hown')
        refine M2.wrz (fun w' => ∃ e : World, w' = over ((w.alloc (.cells #[.bool true, .int .u64  (v : Nat), .int .u8  (lead : Nat), .int .u8  (width : Nat)] 109)).alloc (.cells #[.bool false, .int .u64  0, .int .u8  0, .int .u8  0] 109)) e) [15, 18] 18 (by kernel_rfl) (by kernel_rfl) (by decide) (ovA) ?_; simp only [M2.td]; with_reducible refine M2.mlq 15 (by kernel_rfl) ?_
        simp only [M2.td]; repeat (go_big_quiet_step (fail))
        with_reducible refine wpQuiet_nil ?_
        with_reducible refine M2.mle (by decide) ?_
        go_wp2_with ((go_at_call 160; (with_reducible refine (rput_any (B := (w.alloc (.cells #[.bool true, .int .u64  (v : Nat), .int .u8  (lead : Nat), .int .u8  (width : Nat)] 109)).alloc (.cells #[.bool false, .int .u64  0, .int .u8  0, .int .u8  0] 109)) (base := w.heap.size + 1 + 1) (xs := [true, false]) (by exact ownA hown') (by unfold Ov; exact ovA) (by exact szA) (by exact szA) (by exact szA) D width hDl (by omega)).mono ?_); rintro _ _ ⟨⟨e, rfl⟩, lv, rfl, ho⟩))
        refine M2.MixQ.mk ovA ?_; with_reducible refine M2.mlq 2 (by kernel_rfl) ?_
        simp only [M2.td]; repeat (go_big_quiet_step (fail))
        with_reducible refine wpQuiet_nil ?_
        with_reducible refine M2.mln ?_
        with_reducible refine M2.mle (by decide) ?_
        go_wp2_with (fail)
        refine M2.MixQ.mk trivial ?_; with_reducible refine M2.mln ?_
        go_wp2
        (try simp only [Exit.inBlock, Exit.then])
        refine bodyPost_ret (v := ?rv70) ?rh70 rfl ?rp70
        case rh70 => (simp only [results, show Tryz.f155.results = #[.tmp 4, .cell 5 109] from rfl]; go_simp; rfl)
        exact ⟨_, rfl, ovA, Own.mono (Own.ovw ho (by exact szA) (by exact szA)) (by exact szA)⟩
end
section
open Go.RowKit
attribute [local go_sem] odr
theorem rbput_yes (l : List Bool) (hl : l.length ≤ 800000) (a : Option Addr) (cap : Nat) (n W : Nat) (hn : n < 18446744073709551616) (hW : W ≤ 64) (w : World) (hb : SlB w a cap (pack l)) :
    Calls Tryz.prog 39 #[bv a (pack l).length cap l.length, .int .u64 (n : Nat), .int .i64 (W : Nat)] w (RbOwn w (l ++ num n W)) := by
  have H1 := hid (fun W hW => rsound_any (pack l) pack_lt (pkl (by omega)) l.length (by omega) a cap W hW); rw [spk] at H1; have H3 := hid (fun W hW => rlist_any l (by omega) a cap W hW); obtain ⟨L, hL⟩ : ∃ L, l ++ num n W = L := ⟨_, rfl⟩; have hLl : L.length ≤ 1000000 := by rw [← hL, List.length_append, nml]; omega
  have HO := hid (fun a cap W hW => rof_any L hLl a cap W hW); have HL := hid hL; rw [hL]; clear hL; have hW1 : decide ((64 : Int) < (W : Int)) = false := decide_eq_false (by omega); have hW2 : decide ((W : Int) < 0) = false := decide_eq_false (by omega)
  go_enter Tryz.func39, Tryz.ntmps39; go_wp2_with (first | (go_at_call 63; (with_reducible refine (H1.out _ (by exact slA hb)).mono ?_); rintro _ _ ⟨⟨e1, rfl⟩, rfl⟩) | (go_at_call 64; (with_reducible refine (H3.out _ (by exact slA hb)).mono ?_); rintro _ _ ⟨⟨e4, rfl⟩, v4, rfl, ho4⟩))
  obtain ⟨B, hB⟩ : ∃ B, B = over ((w.alloc (.cells #[.slice a (pack l).length cap, .int .i64 l.length] 49)).alloc (.cells #[.slice none 0 0, .int .i64 0] 49)) e1 := ⟨_, rfl⟩; have OB : Hid (∃ e, B = over w e) := hid (by rw [hB]; exact ovA); have B4 : Hid (Blk B (w.heap.size + 1) [.slice none 0 0, .int .i64 0] 49) := hid (by rw [hB]; exact (by exact blA)); refine gen_w ?_; intro W7 hW7; have V7 : Hid (∃ e, W7 = over B e) := hid (by rw [hW7, hB]; exact ovA); have OL : Hid (OwnT B.heap.size W7 v4 l) := hid (by rw [hW7, hB]; exact (by exact ownA ho4)); clear hW7 hB ho4 H1 H3; have hwB : w.heap.size + 1 < B.heap.size := B4.out.lt; have q0 := B4.out.cell 0 rfl; have q1 := B4.out.cell 1 rfl; have q2 := B4.out.free 0; have q3 := B4.out.free 1; have hwp : w.heap.size ≤ w.heap.size + 1 := by omega
  generalize w.heap.size + 1 = p4 at *
  go_loopw [9, 10] (fun o i wr => ∃ (k : Nat), k ≤ W ∧ i = .int .i64 ((k : Int) - 1) ∧ Ov B wr ∧ OwnT B.heap.size wr o (l ++ num (n >>> k) (W - k))) (fun _ i _ => (intOf i + 1).toNat)
  case atStart =>
   refine ⟨W, Nat.le_refl _, rfl, V7.out, ?_⟩; rw [Nat.sub_self, num_zero, List.append_nil]; exact OL.out
  case round =>
   obtain ⟨k, hk2, rfl, ⟨e9, rfl⟩, hown9⟩ := hrel; by_cases hlt9 : 0 < k
   · obtain ⟨k, rfl⟩ : ∃ j, k = j + 1 := ⟨k - 1, by omega⟩; have hE := bit_e n k hn; have hN := hid (num_snoc n k W hk2); obtain ⟨Y, hY⟩ : ∃ Y, n.testBit k = Y := ⟨_, rfl⟩; rw [hY] at hE hN; have hYl := toNat_le1 Y; obtain ⟨XS, hXS⟩ : ∃ XS, l ++ num (n >>> (k + 1)) (W - (k + 1)) = XS := ⟨_, rfl⟩; rw [hXS] at hown9; have HXS := hid hXS; have hxl : XS.length ≤ 2000000 := by rw [← hXS, List.length_append, nml]; omega
     clear hY hXS; go_wp2_with (at_builtin; refine wpList_append byte_elem tcs_len tcs_one rfl (.tmp 31) (.tmp 38) rfl (B := B) (xs := [Y]) hown9 rfl rfl ovA ovA (by exact asA) (by exact asA) (by (repeat with_reducible refine Sl.drew ?_); exact Sl.one_new (y := Y) (by simp; try omega)) (by exact lnA) (by exact lnB) ?_; intro v' x' hown' _ _)
     go_roundw
     case rel =>
      rw [← HXS.out, List.append_assoc, hN.out] at hown'; exact ⟨k, by omega, by go_num, ovA, hown'⟩
     case measure => simp [intOf] <;> omega
   · obtain rfl : k = 0 := by omega
     rw [Nat.shiftRight_zero, Nat.sub_zero, HL.out] at hown9; obtain ⟨a5, c5, rfl, s5⟩ := Own.slice tcs_len hown9; go_wp2_with (go_at_call 65; (with_reducible refine (HO.out _ _ _ (by exact slA s5)).mono ?_); rintro _ _ ⟨⟨e10, rfl⟩, v6, rfl, a6, c6, rfl, ho6⟩)
     (try simp only [Exit.inBlock, Exit.then])
     refine bodyPost_ret (v := ?rv72) ?rh72 rfl ?rp72
     case rh72 => (simp only [results, show Tryz.f39.results = #[.cell 6 49, .tmp 7] from rfl]; go_simp; rfl)
     refine ⟨a6, c6, rfl, (ovB OB.out), ?_⟩
     (repeat with_reducible refine Own.drew ?_)
     exact Own.mono (Own.ovw ho6 (by exact szA) (by exact szA)) (by exact szA)
end
section
open Go.RowKit
attribute [local go_sem] odr
theorem rep_snoc (k : Nat) : List.replicate k true ++ [true] = List.replicate (k + 1) true := (List.replicate_succ' ..).symm
theorem rzput_yes (l : List Bool) (hl : l.length ≤ 800000) (a : Option Addr) (cap : Nat) (v : Int) (hv : i64ok v) (w : World) (hb : SlB w a cap (pack l)) :
    Calls Tryz.prog 134 #[bv a (pack l).length cap l.length, .int .i64 v] w (RbOwn w (l ++ zbits (foldZ v))) := by
  have H1 := hid (fun W hW => rsound_any (pack l) pack_lt (pkl (by omega)) l.length (by omega) a cap W hW); rw [spk] at H1; have H2 := hid (fun W => rfold_any v hv W); have H3 := hid (fun W hW => rlist_any l (by omega) a cap W hW); have hn := foldZ_lt hv; have hv64 : -9223372036854775808 ≤ v ∧ v ≤ 9223372036854775807 := hv; obtain ⟨hv1, hv2⟩ := hv64; generalize foldZ v = n at *; have hr5 := zrow_le n; have HF := hid (fun k hk W => rfits_any n k hn hk W); have HR := hid (fun W => rrow_any (zrow n) hr5 W); have hzl := zbits_len n; obtain ⟨L, hL⟩ : ∃ L, l ++ zbits n = L := ⟨_, rfl⟩; have hLl : L.length ≤ 1000000 := by rw [← hL, List.length_append]; omega
  have HO := hid (fun a cap W hW => rof_any L hLl a cap W hW); have HL := hid hL; rw [hL]; clear hL
  go_enter Tryz.func134, Tryz.ntmps134; go_wp2_with (first | (go_at_call 63; (with_reducible refine (H1.out _ (by exact slA hb)).mono ?_); rintro _ _ ⟨⟨e1, rfl⟩, rfl⟩) | (go_at_call 152; (with_reducible refine (H2.out _).mono ?_); rintro _ _ ⟨⟨e2, rfl⟩, rfl⟩) | (go_at_call 64; (with_reducible refine (H3.out _ (by exact slA hb)).mono ?_); rintro _ _ ⟨⟨e4, rfl⟩, v4, rfl, ho4⟩))
  go_loopw [9] (fun i wr => ∃ (k : Nat), k ≤ zrow n ∧ i = .int .i64 (k : Nat) ∧ Ov (over (over (over ((w.alloc (.cells #[.slice a (pack l).length cap, .int .i64 l.length] 49)).alloc (.cells #[.slice none 0 0, .int .i64 0] 49)) e1) e2) e4) wr) (fun i _ => 5 - (intOf i).toNat)
  case atStart => exact ⟨0, Nat.zero_le _, rfl, ovA⟩
  case round =>
   obtain ⟨k, hk, rfl, ⟨e5, rfl⟩⟩ := hrel; by_cases hlt : k < zrow n
   · have HFk := hid (fun W => HF.out k (by omega) W); rw [decide_eq_false (show ¬ zrow n ≤ k by omega)] at HFk; go_wp2_with (go_at_call 153; (with_reducible refine (HFk.out _).mono ?_); rintro _ _ ⟨⟨e6, rfl⟩, rfl⟩)
     go_roundw
     case rel => exact ⟨k + 1, by omega, by go_num, ovA⟩
     case measure => simp [intOf]; omega
   · obtain rfl : k = zrow n := by omega
     have HFk := hid (fun W => HF.out (zrow n) (by omega) W); rw [decide_eq_true (Nat.le_refl _)] at HFk; have hw64 := zw_le (zrow n); have hnw := zrow_lt hn; have hz' : zbits n = zhead (zrow n) ++ num n (zw (zrow n)) := rfl; have hzh' : zhead (zrow n) = List.replicate (zrow n) true ++ (if zrow n < 5 then [false] else []) := rfl; have hl5 : OwnT (over (over ((w.alloc (.cells #[.slice a (pack l).length cap, .int .i64 l.length] 49)).alloc (.cells #[.slice none 0 0, .int .i64 0] 49)) e1) e2).heap.size (over (over (over (over ((w.alloc (.cells #[.slice a (pack l).length cap, .int .i64 l.length] 49)).alloc (.cells #[.slice none 0 0, .int .i64 0] 49)) e1) e2) e4) e5) v4 l := Own.over ho4 _; generalize zrow n = R at *; generalize zw R = W at *; go_wp2_with (first | (go_at_call 153; (with_reducible refine (HFk.out _).mono ?_); rintro _ _ ⟨⟨e6, rfl⟩, rfl⟩) | (go_at_call 154; (with_reducible refine (HR.out _).mono ?_); rintro _ _ ⟨⟨e7, rfl⟩, rfl⟩))
     obtain ⟨B, hB⟩ : ∃ B, B = over (over ((w.alloc (.cells #[.slice a (pack l).length cap, .int .i64 l.length] 49)).alloc (.cells #[.slice none 0 0, .int .i64 0] 49)) e1) e2 := ⟨_, rfl⟩; have OB : Hid (∃ e, B = over w e) := hid (by rw [hB]; exact ovA); have B4 : Hid (Blk B (w.heap.size + 1) [.slice none 0 0, .int .i64 0] 49) := hid (by rw [hB]; exact (by exact blA)); refine gen_w ?_; intro W7 hW7; have V7 : Hid (∃ e, W7 = over B e) := hid (by rw [hW7, hB]; exact ovA); have OL : Hid (OwnT B.heap.size W7 v4 l) := hid (by rw [hW7, hB]; exact (by exact ownA hl5)); clear hW7 hB hl5 ho4 HF HFk HR H1 H2 H3; have hwB : w.heap.size + 1 < B.heap.size := B4.out.lt; have q0 := B4.out.cell 0 rfl; have q1 := B4.out.cell 1 rfl; have q2 := B4.out.free 0; have q3 := B4.out.free 1; have hwp : w.heap.size ≤ w.heap.size + 1 := by omega
     generalize w.heap.size + 1 = p4 at *
     go_loopw [8, 12] (fun o i wr => ∃ (j : Nat), j ≤ R ∧ i = .int .i64 (j : Nat) ∧ Ov B wr ∧ OwnT B.heap.size wr o (l ++ List.replicate j true)) (fun _ i _ => R - (intOf i).toNat)
     case atStart =>
      refine ⟨0, Nat.zero_le _, rfl, V7.out, ?_⟩
      simpa using OL.out
     case round =>
      obtain ⟨j, hj, rfl, ⟨e8, rfl⟩, hown⟩ := hrel; by_cases hjR : j < R
      · obtain ⟨XS, hXS⟩ : ∃ XS, l ++ List.replicate j true = XS := ⟨_, rfl⟩; rw [hXS] at hown; have HXS := hid hXS; have hxl : XS.length ≤ 2000000 := by rw [← hXS, List.length_append, List.length_replicate]; omega
        clear hXS; go_wp2_with (at_builtin; refine wpList_append byte_elem tcs_len tcs_one rfl (.tmp 39) (.tmp 40) rfl (B := B) (xs := [true]) hown rfl rfl ovA ovA (by exact asA) (by exact asA) (by (repeat with_reducible refine Sl.drew ?_); exact Sl.one_new (y := true) (by simp; try omega)) (by exact lnA) (by exact lnB) ?_; intro v' x' hown' _ _)
        go_roundw
        case rel =>
         rw [← HXS.out, List.append_assoc, rep_snoc] at hown'; exact ⟨j + 1, by omega, by go_num, ovA, hown'⟩
        case measure => simp [intOf]; omega
      · obtain rfl : j = R := by omega
        by_cases h5 : j < 5
        · rw [if_pos h5] at hzh'; have hzh := hid hzh'; have hz := hid hz'; clear hzh' hz'; have h5' : (j : Int) < 5 := by omega
          obtain ⟨XT, hXT⟩ : ∃ XT, l ++ List.replicate j true = XT := ⟨_, rfl⟩; rw [hXT] at hown; have HXT := hid hXT; have hxl : XT.length ≤ 2000000 := by rw [← hXT, List.length_append, List.length_replicate]; omega
          clear hXT; go_wp2_with (at_builtin; refine wpList_append byte_elem tcs_len tcs_one rfl (.tmp 44) (.tmp 45) rfl (B := B) (xs := [false]) hown rfl rfl ovA ovA (by exact asA) (by exact asA) (by (repeat with_reducible refine Sl.drew ?_); exact Sl.one_new (y := false) (by simp; try omega)) (by exact lnA) (by exact lnB) ?_; intro v' x' hown' _ _; rw [← HXT.out, List.append_assoc] at hown')
          go_loopw [8, 13] (fun o i wr => ∃ (k : Nat), k ≤ W ∧ i = .int .i64 ((k : Int) - 1) ∧ Ov B wr ∧ OwnT B.heap.size wr o (l ++ (zhead j ++ num (n >>> k) (W - k)))) (fun _ i _ => (intOf i + 1).toNat)
          case atStart =>
           refine ⟨W, Nat.le_refl _, rfl, ovA, ?_⟩; rw [Nat.sub_self, num_zero, List.append_nil, hzh.out]; exact hown'
          case round =>
           obtain ⟨k, hk2, rfl, ⟨e9, rfl⟩, hown9⟩ := hrel; by_cases hlt9 : 0 < k
           · obtain ⟨k, rfl⟩ : ∃ j, k = j + 1 := ⟨k - 1, by omega⟩; have hE := bit_e n k hn; have hN := hid (num_snoc n k W hk2); obtain ⟨Y, hY⟩ : ∃ Y, n.testBit k = Y := ⟨_, rfl⟩; rw [hY] at hE hN; have hYl := toNat_le1 Y; obtain ⟨XS, hXS⟩ : ∃ XS, l ++ (zhead j ++ num (n >>> (k + 1)) (W - (k + 1))) = XS := ⟨_, rfl⟩; rw [hXS] at hown9; have HXS := hid hXS; have hxl : XS.length ≤ 2000000 := by
              have hh := zhead_len (show j ≤ 5 from hr5); rw [← hXS, List.length_append, List.length_append, nml, hh]; omega
             clear hY hXS; go_wp2_with (at_builtin; refine wpList_append byte_elem tcs_len tcs_one rfl (.tmp 53) (.tmp 60) rfl (B := B) (xs := [Y]) hown9 rfl rfl ovA ovA (by exact asA) (by exact asA) (by (repeat with_reducible refine Sl.drew ?_); exact Sl.one_new (y := Y) (by simp; try omega)) (by exact lnA) (by exact lnB) ?_; intro v' x' hown' _ _)
             go_roundw
             case rel =>
              rw [← HXS.out, List.append_assoc, List.append_assoc, hN.out] at hown'; exact ⟨k, by omega, by go_num, ovA, hown'⟩
             case measure => simp [intOf] <;> omega
           · obtain rfl : k = 0 := by omega
             rw [Nat.shiftRight_zero, Nat.sub_zero, ← hz.out, HL.out] at hown9; obtain ⟨a5, c5, rfl, s5⟩ := Own.slice tcs_len hown9; go_wp2_with (go_at_call 65; (with_reducible refine (HO.out _ _ _ (by exact slA s5)).mono ?_); rintro _ _ ⟨⟨e10, rfl⟩, v6, rfl, a6, c6, rfl, ho6⟩)
             (try simp only [Exit.inBlock, Exit.then])
             refine bodyPost_ret (v := ?rv73) ?rh73 rfl ?rp73
             case rh73 => (simp only [results, show Tryz.f134.results = #[.cell 4 49, .tmp 5] from rfl]; go_simp; rfl)
             refine ⟨a6, c6, rfl, (ovB OB.out), ?_⟩
             (repeat with_reducible refine Own.drew ?_)
             exact Own.mono (Own.ovw ho6 (by exact szA) (by exact szA)) (by exact szA)
        · rw [if_neg h5, List.append_nil] at hzh'; have hzh := hid hzh'; have hz := hid hz'; clear hzh' hz'; have h5' : ¬ (j : Int) < 5 := by omega
          go_wp2_with fail
          go_loopw [8, 13] (fun o i wr => ∃ (k : Nat), k ≤ W ∧ i = .int .i64 ((k : Int) - 1) ∧ Ov B wr ∧ OwnT B.heap.size wr o (l ++ (zhead j ++ num (n >>> k) (W - k)))) (fun _ i _ => (intOf i + 1).toNat)
          case atStart =>
           refine ⟨W, Nat.le_refl _, rfl, ovA, ?_⟩; rw [Nat.sub_self, num_zero, List.append_nil, hzh.out]; exact hown
          case round =>
           obtain ⟨k, hk2, rfl, ⟨e9, rfl⟩, hown9⟩ := hrel; by_cases hlt9 : 0 < k
           · obtain ⟨k, rfl⟩ : ∃ j, k = j + 1 := ⟨k - 1, by omega⟩; have hE := bit_e n k hn; have hN := hid (num_snoc n k W hk2); obtain ⟨Y, hY⟩ : ∃ Y, n.testBit k = Y := ⟨_, rfl⟩; rw [hY] at hE hN; have hYl := toNat_le1 Y; obtain ⟨XS, hXS⟩ : ∃ XS, l ++ (zhead j ++ num (n >>> (k + 1)) (W - (k + 1))) = XS := ⟨_, rfl⟩; rw [hXS] at hown9; have HXS := hid hXS; have hxl : XS.length ≤ 2000000 := by
              have hh := zhead_len (show j ≤ 5 from hr5); rw [← hXS, List.length_append, List.length_append, nml, hh]; omega
             clear hY hXS; go_wp2_with (at_builtin; refine wpList_append byte_elem tcs_len tcs_one rfl (.tmp 53) (.tmp 60) rfl (B := B) (xs := [Y]) hown9 rfl rfl ovA ovA (by exact asA) (by exact asA) (by (repeat with_reducible refine Sl.drew ?_); exact Sl.one_new (y := Y) (by simp; try omega)) (by exact lnA) (by exact lnB) ?_; intro v' x' hown' _ _)
             go_roundw
             case rel =>
              rw [← HXS.out, List.append_assoc, List.append_assoc, hN.out] at hown'; exact ⟨k, by omega, by go_num, ovA, hown'⟩
             case measure => simp [intOf] <;> omega
           · obtain rfl : k = 0 := by omega
             rw [Nat.shiftRight_zero, Nat.sub_zero, ← hz.out, HL.out] at hown9; obtain ⟨a5, c5, rfl, s5⟩ := Own.slice tcs_len hown9; go_wp2_with (go_at_call 65; (with_reducible refine (HO.out _ _ _ (by exact slA s5)).mono ?_); rintro _ _ ⟨⟨e10, rfl⟩, v6, rfl, a6, c6, rfl, ho6⟩)
             (try simp only [Exit.inBlock, Exit.then])
             refine bodyPost_ret (v := ?rv74) ?rh74 rfl ?rp74
             case rh74 => (simp only [results, show Tryz.f134.results = #[.cell 4 49, .tmp 5] from rfl]; go_simp; rfl)
             refine ⟨a6, c6, rfl, (ovB OB.out), ?_⟩
             (repeat with_reducible refine Own.drew ?_)
             exact Own.mono (Own.ovw ho6 (by exact szA) (by exact szA)) (by exact szA)
end
end Go.Proofs.YtnffcckhdedhpaaGreatDoor
