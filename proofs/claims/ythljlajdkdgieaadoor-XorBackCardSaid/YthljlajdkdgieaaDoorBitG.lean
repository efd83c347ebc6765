/- Walks: bit.Get. -/
import Derived.Test.YthljlajdkdgieaaDoorBitO
import Derived.Test.YthljlajdkdgieaaDoorXorQ
namespace Go.Proofs.YthljlajdkdgieaaDoor
set_option linter.unusedVariables false
set_option linter.unusedSimpArgs false
open Go.RowKit

abbrev getV (p : Nat × Nat) : Value := .tuple #[.int .u64 (p.1 : Nat), .int .u16 (p.2 : Nat)]

theorem shx (d k : Nat) : IntKind.u64.wrap ((d : Int) * (2 : Int) ^ k) = ((d <<< k % 18446744073709551616 : Nat) : Int) := by
  rw [IntKind.wrap_u64, Nat.shiftLeft_eq]; simp

set_option maxRecDepth 100000 in
set_option maxHeartbeats 2000000 in
theorem bget_no (l : List Bool) (hl : l.length ≤ 900000) (at_ : Int) (hat : -9223372036854775808 ≤ at_ ∧ at_ ≤ 9223372036854775807) (W : Nat) (hW : W ≤ 64) (a : Option Addr) (cap : Nat) (w : World) (hs : SlB w a cap (pack l)) (hn : ¬ (0 ≤ at_ ∧ at_ + W ≤ l.length)) :
    Calls Tryd.prog 57 #[bv a (pack l).length cap l.length, .int .i64 at_, .int .i64 (W : Nat)] w (Ret w (getV (getN l at_ W))) := by
  have HS := hid (fun W hW => sound_any (pack l) pack_lt (pack_len_le (by omega)) l.length (by omega) a cap W hW)
  rw [sound_pack] at HS
  rw [show getN l at_ W = (0, 10) by unfold getN; rw [if_neg hn]]
  obtain ⟨ha1, ha2⟩ := hat
  by_cases h0 : at_ < 0
  · clear hn
    go_enter Tryd.func57, Tryd.ntmps57
    go_wp2_with (go_at_call 37; (with_reducible refine (HS.out _ (by repeat (first | with_reducible exact hs | with_reducible refine Sl.over ?_ _ | with_reducible refine Sl.alloc ?_ _ | with_reducible refine Sl.drew ?_ | exact hs))).mono ?_); rintro _ _ ⟨⟨e1, rfl⟩, rfl⟩)
    go_ret2
    exact ⟨(by (try unfold Ov); repeat (first | with_reducible exact ex_over | with_reducible exact over_self _ | with_reducible refine ex_undrew ?_ | with_reducible refine ex_into ?_ _ | with_reducible refine ex_alloc ?_ _ | with_reducible refine ex_drew ?_ | ((with_reducible refine ex_setCell ?_ ?_ _); rotate_left; (first | omega | (focus (simp; done)) | (focus (simp; omega)))) | ((with_reducible refine ex_chg ?_ _ ?_); rotate_left; (first | assumption | (exact Hid.out (by assumption)))) | exact ex_over)), rfl⟩
  · have h0' : 0 ≤ at_ := by omega
    by_cases h1 : (l.length : Int) < at_
    · clear hn h0
      go_enter Tryd.func57, Tryd.ntmps57
      go_wp2_with (go_at_call 37; (with_reducible refine (HS.out _ (by repeat (first | with_reducible exact hs | with_reducible refine Sl.over ?_ _ | with_reducible refine Sl.alloc ?_ _ | with_reducible refine Sl.drew ?_ | exact hs))).mono ?_); rintro _ _ ⟨⟨e1, rfl⟩, rfl⟩)
      go_ret2
      exact ⟨(by (try unfold Ov); repeat (first | with_reducible exact ex_over | with_reducible exact over_self _ | with_reducible refine ex_undrew ?_ | with_reducible refine ex_into ?_ _ | with_reducible refine ex_alloc ?_ _ | with_reducible refine ex_drew ?_ | ((with_reducible refine ex_setCell ?_ ?_ _); rotate_left; (first | omega | (focus (simp; done)) | (focus (simp; omega)))) | ((with_reducible refine ex_chg ?_ _ ?_); rotate_left; (first | assumption | (exact Hid.out (by assumption)))) | exact ex_over)), rfl⟩
    · have h2 : (l.length : Int) - at_ < (W : Int) := by omega
      have h1' : at_ ≤ (l.length : Int) := by omega
      clear hn h0 h1
      go_enter Tryd.func57, Tryd.ntmps57
      go_wp2_with (go_at_call 37; (with_reducible refine (HS.out _ (by repeat (first | with_reducible exact hs | with_reducible refine Sl.over ?_ _ | with_reducible refine Sl.alloc ?_ _ | with_reducible refine Sl.drew ?_ | exact hs))).mono ?_); rintro _ _ ⟨⟨e1, rfl⟩, rfl⟩)
      go_ret2
      exact ⟨(by (try unfold Ov); repeat (first | with_reducible exact ex_over | with_reducible exact over_self _ | with_reducible refine ex_undrew ?_ | with_reducible refine ex_into ?_ _ | with_reducible refine ex_alloc ?_ _ | with_reducible refine ex_drew ?_ | ((with_reducible refine ex_setCell ?_ ?_ _); rotate_left; (first | omega | (focus (simp; done)) | (focus (simp; omega)))) | ((with_reducible refine ex_chg ?_ _ ?_); rotate_left; (first | assumption | (exact Hid.out (by assumption)))) | exact ex_over)), rfl⟩

theorem get_e (V O q : Nat) (hV : V * 2 ^ q + O >>> (8 - q) < 18446744073709551616) (hO : O >>> (8 - q) < 2 ^ q) :
    bits .or .u64 (IntKind.u64.wrap ((V : Int) * (2 : Int) ^ q)) (IntKind.u64.wrap ((O : Int) / (2 : Int) ^ (8 - q))) = ((V * 2 ^ q + O >>> (8 - q) : Nat) : Int) := by
  have e1 : (V : Int) * (2 : Int) ^ q = ((V <<< q : Nat) : Int) := by rw [Nat.shiftLeft_eq]; simp
  have hs : V <<< q = V * 2 ^ q := Nat.shiftLeft_eq _ _
  rw [e1, cast_shr]
  generalize O >>> (8 - q) = b at *
  generalize hc : V * 2 ^ q = c at *
  rw [wrap64u _ (by rw [hs]; omega), wrap64u _ (by omega), or64 _ _ (by rw [hs]; omega) (by omega), ← Nat.shiftLeft_add_eq_or_of_lt hO, hs]
theorem get_v {l : List Bool} {i W q n : Nat} (hn : n ≤ 8) (hq : n ≤ q) (hW : q ≤ W) (hl : i + W ≤ l.length) :
    val ((l.drop i).take (W - q)) * 2 ^ n + (oct fun j => l.getD (i + (W - q) + j) false) >>> (8 - n) = val ((l.drop i).take (W - (q - n))) ∧ (oct fun j => l.getD (i + (W - q) + j) false) >>> (8 - n) < 2 ^ n := by
  rw [oct_shr (by omega) hn]
  have hv := val_lt ((l.drop (i + (W - q))).take n)
  have hL : ((l.drop (i + (W - q))).take n).length = n := by rw [List.length_take, List.length_drop]; omega
  rw [hL] at hv
  refine ⟨?_, hv⟩
  rw [show W - (q - n) = W - q + n by omega, take_two, val_append, hL]

set_option maxRecDepth 100000 in
set_option maxHeartbeats 2000000 in
theorem bget_yes (l : List Bool) (hl : l.length ≤ 900000) (i : Nat) (W : Nat) (hW : W ≤ 64) (a : Option Addr) (cap : Nat) (w : World) (hs : SlB w a cap (pack l)) (hn : i + W ≤ l.length) :
    Calls Tryd.prog 57 #[bv a (pack l).length cap l.length, .int .i64 (i : Nat), .int .i64 (W : Nat)] w (Ret w (.tuple #[.int .u64 (val ((l.drop i).take W) : Nat), .int .u16 0])) := by
  have HS := hid (fun W hW => sound_any (pack l) pack_lt (pack_len_le (by omega)) l.length (by omega) a cap W hW)
  rw [sound_pack] at HS
  have d1 : decide ((64 : Int) < (W : Int)) = false := decide_eq_false (by omega)
  have d2 : decide ((W : Int) < 0) = false := decide_eq_false (by omega)
  have d3 : decide ((l.length : Int) - (i : Int) < (W : Int)) = false := decide_eq_false (by omega)
  have d4 : decide ((i : Int) < 0) = false := decide_eq_false (by omega)
  have d5 : decide (l.length < i) = false := decide_eq_false (by omega)
  have HA := hid (fun q hq W hW => at_any l q hq (by omega) a cap W hW)
  go_enter Tryd.func57, Tryd.ntmps57
  go_wp2_with (go_at_call 37; (with_reducible refine (HS.out _ (by repeat (first | with_reducible exact hs | with_reducible refine Sl.over ?_ _ | with_reducible refine Sl.alloc ?_ _ | with_reducible refine Sl.drew ?_ | exact hs))).mono ?_); rintro _ _ ⟨⟨e1, rfl⟩, rfl⟩)
  go_loopw [1, 2, 8] (fun f k v wr => ∃ (q : Nat), q ≤ W ∧ f = .int .i64 ((i + (W - q) : Nat) : Int) ∧ k = .int .i64 q ∧ v = .int .u64 (val ((l.drop i).take (W - q)) : Nat) ∧ Ov (over (w.alloc (.cells #[.slice a (pack l).length cap, .int .i64 l.length] 29)) e1) wr) (fun _ k _ _ => (intOf k).toNat)
  case atStart =>
    exact ⟨W, Nat.le_refl _, by rw [Nat.sub_self]; rfl, rfl, by rw [Nat.sub_self]; rfl, (by (try unfold Ov); repeat (first | with_reducible exact ex_over | with_reducible exact over_self _ | with_reducible refine ex_undrew ?_ | with_reducible refine ex_into ?_ _ | with_reducible refine ex_alloc ?_ _ | with_reducible refine ex_drew ?_ | ((with_reducible refine ex_setCell ?_ ?_ _); rotate_left; (first | omega | (focus (simp; done)) | (focus (simp; omega)))) | ((with_reducible refine ex_chg ?_ _ ?_); rotate_left; (first | assumption | (exact Hid.out (by assumption)))) | exact ex_over))⟩
  case round =>
    obtain ⟨q, hq, rfl, rfl, rfl, ⟨e, rfl⟩⟩ := hrel
    by_cases hlt : 0 < q
    · by_cases h8 : q ≤ 8
      · have _t := trivial
        obtain ⟨g1, g2⟩ := get_v h8 (Nat.le_refl q) hq hn
        have hvl := val_lt ((l.drop i).take (W - (q - q)))
        rw [List.length_take] at hvl
        have hvl2 : val ((l.drop i).take (W - (q - q))) < 18446744073709551616 := Nat.lt_of_lt_of_le hvl (by rw [show 18446744073709551616 = 2 ^ 64 from rfl]; exact Nat.pow_le_pow_right (by omega) (by omega))
        rw [← g1] at hvl2
        have hE := hid (get_e _ _ q hvl2 g2)
        clear hvl hvl2 g2
        have hJl : i + (W - q) < l.length := by omega
        have HAJ := hid (fun W hW => HA.out _ hJl W hW)
        have HG := hid g1
        clear g1
        obtain ⟨V, hV⟩ : ∃ V, val ((l.drop i).take (W - q)) = V := ⟨_, rfl⟩
        obtain ⟨J, hJ⟩ : ∃ J, i + (W - q) = J := ⟨_, rfl⟩
        have hJq : J + q = i + W := by omega
        rw [hJ] at HAJ HG hE hJl
        obtain ⟨O, hO⟩ : ∃ O, (oct fun j => l.getD (J + j) false) = O := ⟨_, rfl⟩
        rw [hV, hO] at HG hE
        rw [hO] at HAJ
        rw [hV, hJ]
        clear hV hJ hO
        go_wp2
        refine M2.wp_region_mix [5] 12 (by kernel_rfl) (by kernel_rfl) (by decide) ?_
        simp only [List.take_succ_cons, List.take_zero, List.drop_succ_cons, List.drop_zero]
        with_reducible refine M2.mixL_quiet 5 (by kernel_rfl) ?_
        simp only [List.take_succ_cons, List.take_zero, List.drop_succ_cons, List.drop_zero]
        repeat (go_big_quiet_step (fail))
        with_reducible refine wpQuiet_nil ?_
        with_reducible refine M2.mixL_eff (by decide) ?_
        go_wp2_with ((go_at_call 71; (with_reducible refine (HAJ.out _ (by repeat (first | with_reducible exact hs | with_reducible refine Sl.over ?_ _ | with_reducible refine Sl.alloc ?_ _ | with_reducible refine Sl.drew ?_ | exact hs))).mono ?_); rintro _ _ ⟨⟨e2, rfl⟩, rfl⟩))
        refine M2.MixQ.mk (by (try unfold Ov); repeat (first | with_reducible exact ex_over | with_reducible exact over_self _ | with_reducible refine ex_undrew ?_ | with_reducible refine ex_into ?_ _ | with_reducible refine ex_alloc ?_ _ | with_reducible refine ex_drew ?_ | ((with_reducible refine ex_setCell ?_ ?_ _); rotate_left; (first | omega | (focus (simp; done)) | (focus (simp; omega)))) | ((with_reducible refine ex_chg ?_ _ ?_); rotate_left; (first | assumption | (exact Hid.out (by assumption)))) | exact ex_over)) ?_
        with_reducible refine M2.mixL_quiet 6 (by kernel_rfl) ?_
        simp only [List.take_succ_cons, List.take_zero, List.drop_succ_cons, List.drop_zero]
        repeat (go_big_quiet_step (fail))
        with_reducible refine wpQuiet_nil ?_
        with_reducible refine M2.mixL_nil ?_
        with_reducible refine M2.mixL_nil ?_
        go_wp2
        go_roundw
        case rel =>
          refine ⟨q - q, by omega, ?_, by go_num, ?_, (by (try unfold Ov); repeat (first | with_reducible exact ex_over | with_reducible exact over_self _ | with_reducible refine ex_undrew ?_ | with_reducible refine ex_into ?_ _ | with_reducible refine ex_alloc ?_ _ | with_reducible refine ex_drew ?_ | ((with_reducible refine ex_setCell ?_ ?_ _); rotate_left; (first | omega | (focus (simp; done)) | (focus (simp; omega)))) | ((with_reducible refine ex_chg ?_ _ ?_); rotate_left; (first | assumption | (exact Hid.out (by assumption)))) | exact ex_over))⟩
          · congr 1; omega
          · have h1 := hE.out
            rw [HG.out] at h1
            rw [← h1]
        case measure => simp [intOf]; omega
      · have h9 : 8 < q := by omega
        obtain ⟨g1, g2⟩ := get_v (Nat.le_refl 8) (by omega : 8 ≤ q) hq hn
        have hvl := val_lt ((l.drop i).take (W - (q - 8)))
        rw [List.length_take] at hvl
        have hvl2 : val ((l.drop i).take (W - (q - 8))) < 18446744073709551616 := Nat.lt_of_lt_of_le hvl (by rw [show 18446744073709551616 = 2 ^ 64 from rfl]; exact Nat.pow_le_pow_right (by omega) (by omega))
        rw [← g1] at hvl2
        have hE := hid (get_e _ _ 8 hvl2 g2)
        clear hvl hvl2 g2
        have hJl : i + (W - q) < l.length := by omega
        have HAJ := hid (fun W hW => HA.out _ hJl W hW)
        have HG := hid g1
        clear g1
        obtain ⟨V, hV⟩ : ∃ V, val ((l.drop i).take (W - q)) = V := ⟨_, rfl⟩
        obtain ⟨J, hJ⟩ : ∃ J, i + (W - q) = J := ⟨_, rfl⟩
        have hJq : J + q = i + W := by omega
        rw [hJ] at HAJ HG hE hJl
        obtain ⟨O, hO⟩ : ∃ O, (oct fun j => l.getD (J + j) false) = O := ⟨_, rfl⟩
        rw [hV, hO] at HG hE
        rw [hO] at HAJ
        rw [hV, hJ]
        clear hV hJ hO
        go_wp2
        refine M2.wp_region_mix [5] 12 (by kernel_rfl) (by kernel_rfl) (by decide) ?_
        simp only [List.take_succ_cons, List.take_zero, List.drop_succ_cons, List.drop_zero]
        with_reducible refine M2.mixL_quiet 5 (by kernel_rfl) ?_
        simp only [List.take_succ_cons, List.take_zero, List.drop_succ_cons, List.drop_zero]
        repeat (go_big_quiet_step (fail))
        with_reducible refine wpQuiet_nil ?_
        with_reducible refine M2.mixL_eff (by decide) ?_
        go_wp2_with ((go_at_call 71; (with_reducible refine (HAJ.out _ (by repeat (first | with_reducible exact hs | with_reducible refine Sl.over ?_ _ | with_reducible refine Sl.alloc ?_ _ | with_reducible refine Sl.drew ?_ | exact hs))).mono ?_); rintro _ _ ⟨⟨e2, rfl⟩, rfl⟩))
        refine M2.MixQ.mk (by (try unfold Ov); repeat (first | with_reducible exact ex_over | with_reducible exact over_self _ | with_reducible refine ex_undrew ?_ | with_reducible refine ex_into ?_ _ | with_reducible refine ex_alloc ?_ _ | with_reducible refine ex_drew ?_ | ((with_reducible refine ex_setCell ?_ ?_ _); rotate_left; (first | omega | (focus (simp; done)) | (focus (simp; omega)))) | ((with_reducible refine ex_chg ?_ _ ?_); rotate_left; (first | assumption | (exact Hid.out (by assumption)))) | exact ex_over)) ?_
        with_reducible refine M2.mixL_quiet 6 (by kernel_rfl) ?_
        simp only [List.take_succ_cons, List.take_zero, List.drop_succ_cons, List.drop_zero]
        repeat (go_big_quiet_step (fail))
        with_reducible refine wpQuiet_nil ?_
        with_reducible refine M2.mixL_nil ?_
        with_reducible refine M2.mixL_nil ?_
        go_wp2
        go_roundw
        case rel =>
          refine ⟨q - 8, by omega, ?_, by go_num, ?_, (by (try unfold Ov); repeat (first | with_reducible exact ex_over | with_reducible exact over_self _ | with_reducible refine ex_undrew ?_ | with_reducible refine ex_into ?_ _ | with_reducible refine ex_alloc ?_ _ | with_reducible refine ex_drew ?_ | ((with_reducible refine ex_setCell ?_ ?_ _); rotate_left; (first | omega | (focus (simp; done)) | (focus (simp; omega)))) | ((with_reducible refine ex_chg ?_ _ ?_); rotate_left; (first | assumption | (exact Hid.out (by assumption)))) | exact ex_over))⟩
          · congr 1; omega
          · have h1 := hE.out
            rw [HG.out] at h1
            rw [← h1]
            simp
        case measure => simp [intOf]; omega
    · obtain rfl : q = 0 := by omega
      go_wp2
      go_ret2
      rw [Nat.sub_zero]
      exact ⟨(by (try unfold Ov); repeat (first | with_reducible exact ex_over | with_reducible exact over_self _ | with_reducible refine ex_undrew ?_ | with_reducible refine ex_into ?_ _ | with_reducible refine ex_alloc ?_ _ | with_reducible refine ex_drew ?_ | ((with_reducible refine ex_setCell ?_ ?_ _); rotate_left; (first | omega | (focus (simp; done)) | (focus (simp; omega)))) | ((with_reducible refine ex_chg ?_ _ ?_); rotate_left; (first | assumption | (exact Hid.out (by assumption)))) | exact ex_over)), rfl⟩

theorem bget_any (l : List Bool) (hl : l.length ≤ 900000) (at_ : Int) (hat : -9223372036854775808 ≤ at_ ∧ at_ ≤ 9223372036854775807) (W : Nat) (hW : W ≤ 64) (a : Option Addr) (cap : Nat) (w : World) (hs : SlB w a cap (pack l)) :
    Calls Tryd.prog 57 #[bv a (pack l).length cap l.length, .int .i64 at_, .int .i64 (W : Nat)] w (Ret w (getV (getN l at_ W))) := by
  by_cases hn : 0 ≤ at_ ∧ at_ + W ≤ l.length
  · obtain ⟨i, rfl⟩ : ∃ i : Nat, at_ = i := ⟨at_.toNat, by omega⟩
    rw [show getN l i W = (val ((l.drop i).take W), 0) by unfold getN; rw [if_pos hn, Int.toNat_natCast]]
    exact bget_yes l hl i W hW a cap w hs (by omega)
  · exact bget_no l hl at_ hat W hW a cap w hs hn
end Go.Proofs.YthljlajdkdgieaaDoor
