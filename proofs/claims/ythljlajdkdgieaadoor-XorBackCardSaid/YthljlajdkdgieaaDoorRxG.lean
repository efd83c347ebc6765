/- Walks: the document's Get of values. -/
import Derived.Test.YthljlajdkdgieaaDoorRefV
namespace Go.Proofs.YthljlajdkdgieaaDoor
set_option linter.unusedVariables false
set_option linter.unusedSimpArgs false
open Go.RowKit
attribute [local go_sem] over_drew

theorem valueX_lt {l : List Bool} {at_ : Int} {s : Vl} (hs : s.wf) : (valueX l at_ s).1 < 18446744073709551616 := by
  have hx : ∀ d, s.prev ^^^ (d % 18446744073709551616) < 18446744073709551616 := fun d => Nat.xor_lt_two_pow (n := 64) hs.1 (Nat.mod_lt _ (by decide))
  unfold valueX
  split
  · split
    · exact hs.1
    split
    · exact Nat.zero_lt_succ _
    split
    · split
      · exact Nat.zero_lt_succ _
      · exact hx _
    split
    · exact Nat.zero_lt_succ _
    split
    · exact Nat.zero_lt_succ _
    split
    · exact Nat.zero_lt_succ _
    split
    · exact Nat.zero_lt_succ _
    · exact hx _
  · have := getN_lt l at_ 64; exact this

abbrev rxgV (v : Nat) (n : Int) (t : Vl) (e : Nat) : Value := .tuple #[.int .u64 (v : Nat), .int .i64 n, t.v, .int .i64 (e : Nat)]

set_option maxRecDepth 100000 in
set_option maxHeartbeats 2000000 in
theorem rxget_no (bs : List Nat) (hbs : ∀ b ∈ bs, b < 256) (hl : bs.length ≤ 1000000) (N : Int) (hN : -9223372036854775808 ≤ N ∧ N ≤ 9223372036854775807) (a : Option Addr) (cap : Nat) (at_ : Int) (s : Vl) (hs : s.wf) (w : World) (hb : SlB w a cap bs)
    (hn : ¬ wrongX (soundB bs N) (soundV s) = 0) : Calls Tryd.prog 32 #[bv a bs.length cap N, .int .i64 at_, s.v] w (Ret w (rxgV 0 0 Vl.zero (wrongX (soundB bs N) (soundV s)))) := by
  have H1 := hid (fun W hW => rsound_any bs hbs hl N hN a cap W hW)
  have H2 := hid (fun W => rxsound_any s hs W)
  obtain ⟨hs1, hs2, hs3⟩ := hs
  cases g1 : soundB bs N
  · rw [g1] at H1
    rw [show wrongX false (soundV s) = 11 from rfl]
    clear hn
    go_enter Tryd.func32, Tryd.ntmps32
    go_wp2_with (go_at_call 46; (with_reducible refine (H1.out _ (by repeat (first | with_reducible exact hb | with_reducible refine Sl.over ?_ _ | with_reducible refine Sl.alloc ?_ _ | with_reducible refine Sl.drew ?_ | exact hb))).mono ?_); rintro _ _ ⟨⟨e1, rfl⟩, rfl⟩)
    (try simp only [Exit.inBlock, Exit.then])
    refine bodyPost_ret (v := ?rv57) ?rh57 rfl ?rp57
    case rh57 => (simp only [results, show Tryd.f32.results = #[.tmp 6, .tmp 7, .cell 8 24, .tmp 9] from rfl]; go_simp; rfl)
    exact ⟨(by (try unfold Ov); repeat (first | with_reducible exact ex_over | with_reducible exact over_self _ | with_reducible refine ex_undrew ?_ | with_reducible refine ex_into ?_ _ | with_reducible refine ex_alloc ?_ _ | with_reducible refine ex_drew ?_ | ((with_reducible refine ex_setCell ?_ ?_ _); rotate_left; (first | omega | (focus (simp; done)) | (focus (simp; omega)))) | ((with_reducible refine ex_chg ?_ _ ?_); rotate_left; (first | assumption | (exact Hid.out (by assumption)))) | exact ex_over)), rfl⟩
  · rw [g1] at H1 hn
    cases g2 : soundV s
    · rw [g2] at H2
      rw [show wrongX true false = 30 from rfl]
      clear hn
      go_enter Tryd.func32, Tryd.ntmps32
      go_wp2_with (first | (go_at_call 46; (with_reducible refine (H1.out _ (by repeat (first | with_reducible exact hb | with_reducible refine Sl.over ?_ _ | with_reducible refine Sl.alloc ?_ _ | with_reducible refine Sl.drew ?_ | exact hb))).mono ?_); rintro _ _ ⟨⟨e1, rfl⟩, rfl⟩) | (go_at_call 20; (with_reducible refine (H2.out _).mono ?_); rintro _ _ ⟨⟨e2, rfl⟩, rfl⟩))
      (try simp only [Exit.inBlock, Exit.then])
      refine bodyPost_ret (v := ?rv58) ?rh58 rfl ?rp58
      case rh58 => (simp only [results, show Tryd.f32.results = #[.tmp 6, .tmp 7, .cell 8 24, .tmp 9] from rfl]; go_simp; rfl)
      exact ⟨(by (try unfold Ov); repeat (first | with_reducible exact ex_over | with_reducible exact over_self _ | with_reducible refine ex_undrew ?_ | with_reducible refine ex_into ?_ _ | with_reducible refine ex_alloc ?_ _ | with_reducible refine ex_drew ?_ | ((with_reducible refine ex_setCell ?_ ?_ _); rotate_left; (first | omega | (focus (simp; done)) | (focus (simp; omega)))) | ((with_reducible refine ex_chg ?_ _ ?_); rotate_left; (first | assumption | (exact Hid.out (by assumption)))) | exact ex_over)), rfl⟩
    · rw [g2] at hn
      exact absurd rfl hn

set_option maxRecDepth 100000 in
set_option maxHeartbeats 4000000 in
/-- The place is none. -/
theorem rxget_far (l : List Bool) (hl : l.length ≤ 800000) (a : Option Addr) (cap : Nat) (at_ : Int) (hat : -9223372036854775808 ≤ at_ ∧ at_ ≤ 9223372036854775807) (h : at_ < 0 ∨ l.length < at_) (s : Vl) (hs : s.wf) (hsd : soundV s = true) (w : World) (hb : SlB w a cap (pack l)) :
    Calls Tryd.prog 32 #[bv a (pack l).length cap l.length, .int .i64 at_, s.v] w (Ret w (rxgV 0 0 Vl.zero 10)) := by
  have H1 := hid (fun W hW => rsound_any (pack l) pack_lt (pack_len_le (by omega)) l.length (by omega) a cap W hW)
  rw [sound_pack] at H1
  have H2 := hid (fun W => rxsound_any s hs W)
  rw [hsd] at H2
  obtain ⟨hs1, hs2, hs3⟩ := hs
  obtain ⟨ha1, ha2⟩ := hat
  by_cases h0 : at_ < 0
  · clear h
    go_enter Tryd.func32, Tryd.ntmps32
    go_wp2_with (first | (go_at_call 46; (with_reducible refine (H1.out _ (by repeat (first | with_reducible exact hb | with_reducible refine Sl.over ?_ _ | with_reducible refine Sl.alloc ?_ _ | with_reducible refine Sl.drew ?_ | exact hb))).mono ?_); rintro _ _ ⟨⟨e1, rfl⟩, rfl⟩) | (go_at_call 20; (with_reducible refine (H2.out _).mono ?_); rintro _ _ ⟨⟨e2, rfl⟩, rfl⟩))
    (try simp only [Exit.inBlock, Exit.then])
    refine bodyPost_ret (v := ?rv59) ?rh59 rfl ?rp59
    case rh59 => (simp only [results, show Tryd.f32.results = #[.tmp 6, .tmp 7, .cell 8 24, .tmp 9] from rfl]; go_simp; rfl)
    exact ⟨(by (try unfold Ov); repeat (first | with_reducible exact ex_over | with_reducible exact over_self _ | with_reducible refine ex_undrew ?_ | with_reducible refine ex_into ?_ _ | with_reducible refine ex_alloc ?_ _ | with_reducible refine ex_drew ?_ | ((with_reducible refine ex_setCell ?_ ?_ _); rotate_left; (first | omega | (focus (simp; done)) | (focus (simp; omega)))) | ((with_reducible refine ex_chg ?_ _ ?_); rotate_left; (first | assumption | (exact Hid.out (by assumption)))) | exact ex_over)), rfl⟩
  · have h1 : (l.length : Int) < at_ := by omega
    clear h
    go_enter Tryd.func32, Tryd.ntmps32
    go_wp2_with (first | (go_at_call 46; (with_reducible refine (H1.out _ (by repeat (first | with_reducible exact hb | with_reducible refine Sl.over ?_ _ | with_reducible refine Sl.alloc ?_ _ | with_reducible refine Sl.drew ?_ | exact hb))).mono ?_); rintro _ _ ⟨⟨e1, rfl⟩, rfl⟩) | (go_at_call 20; (with_reducible refine (H2.out _).mono ?_); rintro _ _ ⟨⟨e2, rfl⟩, rfl⟩))
    (try simp only [Exit.inBlock, Exit.then])
    refine bodyPost_ret (v := ?rv60) ?rh60 rfl ?rp60
    case rh60 => (simp only [results, show Tryd.f32.results = #[.tmp 6, .tmp 7, .cell 8 24, .tmp 9] from rfl]; go_simp; rfl)
    exact ⟨(by (try unfold Ov); repeat (first | with_reducible exact ex_over | with_reducible exact over_self _ | with_reducible refine ex_undrew ?_ | with_reducible refine ex_into ?_ _ | with_reducible refine ex_alloc ?_ _ | with_reducible refine ex_drew ?_ | ((with_reducible refine ex_setCell ?_ ?_ _); rotate_left; (first | omega | (focus (simp; done)) | (focus (simp; omega)))) | ((with_reducible refine ex_chg ?_ _ ?_); rotate_left; (first | assumption | (exact Hid.out (by assumption)))) | exact ex_over)), rfl⟩

set_option maxRecDepth 100000 in
set_option maxHeartbeats 4000000 in
/-- No value stands there. -/
theorem rxget_err (l : List Bool) (hl : l.length ≤ 800000) (a : Option Addr) (cap : Nat) (i : Nat) (hi : i ≤ l.length) (s : Vl) (hs : s.wf) (hsd : soundV s = true) (v n e : Nat) (hv : valueX l i s = (v, n, e)) (he : e ≠ 0) (w : World) (hb : SlB w a cap (pack l)) :
    Calls Tryd.prog 32 #[bv a (pack l).length cap l.length, .int .i64 (i : Nat), s.v] w (Ret w (rxgV 0 0 Vl.zero e)) := by
  have H1 := hid (fun W hW => rsound_any (pack l) pack_lt (pack_len_le (by omega)) l.length (by omega) a cap W hW)
  rw [sound_pack] at H1
  have H2 := hid (fun W => rxsound_any s hs W)
  rw [hsd] at H2
  have H3 := hid (fun W hW => rval_any l (by omega) i (by omega) s hs hsd a cap W hW)
  rw [hv] at H3
  have H3' : Hid (∀ W, SlB W a cap (pack l) → Calls Tryd.prog 62 #[bv a (pack l).length cap l.length, .int .i64 (i : Nat), s.v] W (Ret W (.tuple #[.int .u64 (v : Nat), .int .i64 (n : Nat), .int .i64 (e : Nat)]))) := H3
  clear H3 hv
  have he' : ((e : Int) != 0) = true := by simp; exact he
  obtain ⟨hs1, hs2, hs3⟩ := hs
  go_enter Tryd.func32, Tryd.ntmps32
  go_wp2_with (first | (go_at_call 46; (with_reducible refine (H1.out _ (by repeat (first | with_reducible exact hb | with_reducible refine Sl.over ?_ _ | with_reducible refine Sl.alloc ?_ _ | with_reducible refine Sl.drew ?_ | exact hb))).mono ?_); rintro _ _ ⟨⟨e1, rfl⟩, rfl⟩) | (go_at_call 20; (with_reducible refine (H2.out _).mono ?_); rintro _ _ ⟨⟨e2, rfl⟩, rfl⟩) | (go_at_call 62; (with_reducible refine (H3'.out _ (by repeat (first | with_reducible exact hb | with_reducible refine Sl.over ?_ _ | with_reducible refine Sl.alloc ?_ _ | with_reducible refine Sl.drew ?_ | exact hb))).mono ?_); rintro _ _ ⟨⟨e3, rfl⟩, rfl⟩))
  (try simp only [Exit.inBlock, Exit.then])
  refine bodyPost_ret (v := ?rv61) ?rh61 rfl ?rp61
  case rh61 => (simp only [results, show Tryd.f32.results = #[.tmp 6, .tmp 7, .cell 8 24, .tmp 9] from rfl]; go_simp; rfl)
  exact ⟨(by (try unfold Ov); repeat (first | with_reducible exact ex_over | with_reducible exact over_self _ | with_reducible refine ex_undrew ?_ | with_reducible refine ex_into ?_ _ | with_reducible refine ex_alloc ?_ _ | with_reducible refine ex_drew ?_ | ((with_reducible refine ex_setCell ?_ ?_ _); rotate_left; (first | omega | (focus (simp; done)) | (focus (simp; omega)))) | ((with_reducible refine ex_chg ?_ _ ?_); rotate_left; (first | assumption | (exact Hid.out (by assumption)))) | exact ex_over)), rfl⟩

theorem take_next {l r : List Bool} {i k : Nat} (hk : k < r.length) (hi : i + k < l.length) (h : r.take k = (l.drop i).take k) (hb : r[k] = l[i + k]) : r.take (k + 1) = (l.drop i).take (k + 1) := by
  rw [List.take_add_one, List.take_add_one, h, List.getElem?_drop, List.getElem?_eq_getElem hk, List.getElem?_eq_getElem hi, hb]
theorem take_not {l r : List Bool} {i k : Nat} (hk : k < r.length) (hi : i + k < l.length) (hb : r[k] ≠ l[i + k]) : r ≠ (l.drop i).take r.length := by
  intro h
  apply hb
  have := congrArg (fun q => q[k]?) h
  simp only [List.getElem?_eq_getElem hk, List.getElem?_take, if_pos hk, List.getElem?_drop, List.getElem?_eq_getElem hi] at this
  exact Option.some.inj this
theorem toNat_ne {b c : Bool} (h : b ≠ c) : ((b.toNat : Int) != (c.toNat : Int)) = true := by cases b <;> cases c <;> first | rfl | exact absurd rfl h

set_option maxRecDepth 100000 in
set_option maxHeartbeats 4000000 in
/-- A value stands there: is it written so? -/
theorem rxget_val (l : List Bool) (hl : l.length ≤ 800000) (a : Option Addr) (cap : Nat) (i : Nat) (s : Vl) (hs : s.wf) (hsd : soundV s = true) (v n : Nat) (hv : valueX l i s = (v, n, 0)) (hi : i + n ≤ l.length) (w : World) (hb : SlB w a cap (pack l)) :
    Calls Tryd.prog 32 #[bv a (pack l).length cap l.length, .int .i64 (i : Nat), s.v] w (Ret w (if (written s v).1 = (l.drop i).take n then rxgV v (i + n : Nat) (written s v).2 0 else rxgV 0 0 Vl.zero 30)) := by
  have H1 := hid (fun W hW => rsound_any (pack l) pack_lt (pack_len_le (by omega)) l.length (by omega) a cap W hW)
  rw [sound_pack] at H1
  have H2 := hid (fun W => rxsound_any s hs W)
  rw [hsd] at H2
  have H3 := hid (fun W hW => rval_any l (by omega) i (by omega) s hs hsd a cap W hW)
  rw [hv] at H3
  have H3' : Hid (∀ W, SlB W a cap (pack l) → Calls Tryd.prog 62 #[bv a (pack l).length cap l.length, .int .i64 (i : Nat), s.v] W (Ret W (.tuple #[.int .u64 (v : Nat), .int .i64 (n : Nat), .int .i64 0]))) := H3
  have hvl : v < 18446744073709551616 := by have := valueX_lt (l := l) (at_ := i) hs; rwa [hv] at this
  have H4 := hid (fun W => rwrit_any s hs hsd v hvl W)
  have HB := hid (fun k hk W hW => rbit_l l k hk (by omega) l.length a cap W hW)
  have hwl := (written_len hsd hs hvl).1
  generalize (written s v).1 = r at *
  generalize (written s v).2 = t at *
  clear H3 hv
  obtain ⟨hs1, hs2, hs3⟩ := hs
  obtain ⟨res, hres⟩ : ∃ res, (if r = (l.drop i).take n then rxgV v (i + n : Nat) t 0 else rxgV 0 0 Vl.zero 30) = res := ⟨_, rfl⟩
  rw [hres]
  by_cases hrn : r.length = n
  rotate_left
  · rw [if_neg (by intro h; apply hrn; rw [h, List.length_take, List.length_drop]; omega)] at hres
    subst hres
    have hrn' : ((r.length : Int) != (n : Int)) = true := by simp; omega
    clear hrn
    go_enter Tryd.func32, Tryd.ntmps32
    go_wp2_with (first | (go_at_call 46; (with_reducible refine (H1.out _ (by repeat (first | with_reducible exact hb | with_reducible refine Sl.over ?_ _ | with_reducible refine Sl.alloc ?_ _ | with_reducible refine Sl.drew ?_ | exact hb))).mono ?_); rintro _ _ ⟨⟨e1, rfl⟩, rfl⟩) | (go_at_call 20; (with_reducible refine (H2.out _).mono ?_); rintro _ _ ⟨⟨e2, rfl⟩, rfl⟩) | (go_at_call 62; (with_reducible refine (H3'.out _ (by repeat (first | with_reducible exact hb | with_reducible refine Sl.over ?_ _ | with_reducible refine Sl.alloc ?_ _ | with_reducible refine Sl.drew ?_ | exact hb))).mono ?_); rintro _ _ ⟨⟨e3, rfl⟩, rfl⟩) | (go_at_call 47; (with_reducible refine (H4.out _).mono ?_); rintro _ _ ⟨v4, rfl, ⟨e4, rfl⟩, ho4⟩; obtain ⟨a4, c4, rfl, s4⟩ := Own.slice tcs_len ho4; clear ho4))
    (try simp only [Exit.inBlock, Exit.then])
    refine bodyPost_ret (v := ?rv62) ?rh62 rfl ?rp62
    case rh62 => (simp only [results, show Tryd.f32.results = #[.tmp 6, .tmp 7, .cell 8 24, .tmp 9] from rfl]; go_simp; rfl)
    exact ⟨(by (try unfold Ov); repeat (first | with_reducible exact ex_over | with_reducible exact over_self _ | with_reducible refine ex_undrew ?_ | with_reducible refine ex_into ?_ _ | with_reducible refine ex_alloc ?_ _ | with_reducible refine ex_drew ?_ | ((with_reducible refine ex_setCell ?_ ?_ _); rotate_left; (first | omega | (focus (simp; done)) | (focus (simp; omega)))) | ((with_reducible refine ex_chg ?_ _ ?_); rotate_left; (first | assumption | (exact Hid.out (by assumption)))) | exact ex_over)), rfl⟩
  have hrn2 : ((r.length : Int) != (n : Int)) = false := by simp; omega
  have HRN := hid hrn
  clear hrn
  go_enter Tryd.func32, Tryd.ntmps32
  go_wp2_with (first | (go_at_call 46; (with_reducible refine (H1.out _ (by repeat (first | with_reducible exact hb | with_reducible refine Sl.over ?_ _ | with_reducible refine Sl.alloc ?_ _ | with_reducible refine Sl.drew ?_ | exact hb))).mono ?_); rintro _ _ ⟨⟨e1, rfl⟩, rfl⟩) | (go_at_call 20; (with_reducible refine (H2.out _).mono ?_); rintro _ _ ⟨⟨e2, rfl⟩, rfl⟩) | (go_at_call 62; (with_reducible refine (H3'.out _ (by repeat (first | with_reducible exact hb | with_reducible refine Sl.over ?_ _ | with_reducible refine Sl.alloc ?_ _ | with_reducible refine Sl.drew ?_ | exact hb))).mono ?_); rintro _ _ ⟨⟨e3, rfl⟩, rfl⟩) | (go_at_call 47; (with_reducible refine (H4.out _).mono ?_); rintro _ _ ⟨v4, rfl, ⟨e4, rfl⟩, ho4⟩; obtain ⟨a4, c4, rfl, s4⟩ := Own.slice tcs_len ho4; clear ho4))
  have HRES := hid hres
  clear hres
  go_loopw [17] (fun f wr => ∃ (k : Nat), k ≤ n ∧ f = .int .i64 (k : Nat) ∧ Ov ((over (over (over (over (((w.alloc (.cells #[.slice a (pack l).length cap, .int .i64 l.length] 29)).alloc (.cells #[.bool s.has, .int .u64  s.prev, .int .u8  s.lead, .int .u8  s.width] 24)).alloc (.cells #[.bool false, .int .u64  0, .int .u8  0, .int .u8  0] 24)) e1) e2) e3) e4).alloc (.cells #[.bool t.has, .int .u64  t.prev, .int .u8  t.lead, .int .u8  t.width] 24)) wr ∧ Hid (r.take k = (l.drop i).take k)) (fun f _ => n - (intOf f).toNat)
  case atStart =>
    exact ⟨0, Nat.zero_le _, rfl, (by (try unfold Ov); repeat (first | with_reducible exact ex_over | with_reducible exact over_self _ | with_reducible refine ex_undrew ?_ | with_reducible refine ex_into ?_ _ | with_reducible refine ex_alloc ?_ _ | with_reducible refine ex_drew ?_ | ((with_reducible refine ex_setCell ?_ ?_ _); rotate_left; (first | omega | (focus (simp; done)) | (focus (simp; omega)))) | ((with_reducible refine ex_chg ?_ _ ?_); rotate_left; (first | assumption | (exact Hid.out (by assumption)))) | exact ex_over)), hid (by simp)⟩
  case round =>
    obtain ⟨k, hk, rfl, ⟨e, rfl⟩, hto⟩ := hrel
    by_cases hlt : k < n
    · have hik : i + k < l.length := by omega
      have hkr : k < r.length := by have := HRN.out; omega
      obtain ⟨b6, o6, rfl, hb6, k0⟩ := SlT.at_ s4 hkr
      simp at hb6
      have hb7 : b6 < w.heap.size + 1 + 1 + 1 + e1.heap.size + e2.heap.size + e3.heap.size + e4.heap.size + 1 := by omega
      have hb8 : b6 < w.heap.size + 1 + 1 + 1 + e1.heap.size + e2.heap.size + e3.heap.size + e4.heap.size + 1 + e.heap.size := by omega
      have HBk := hid (fun W hW => HB.out (i + k) hik W hW)
      obtain ⟨X, hX⟩ : ∃ X, r[k].toNat = X := ⟨_, rfl⟩
      obtain ⟨Y, hY⟩ : ∃ Y, l[i + k].toNat = Y := ⟨_, rfl⟩
      rw [hX] at k0
      rw [hY] at HBk
      have hXY : r[k] = l[i + k] ↔ X = Y := by rw [← hX, ← hY]; constructor
                                               · intro h; rw [h]
                                               · intro h; revert h; cases r[k] <;> cases l[i + k] <;> simp
      obtain ⟨J, hJ⟩ : ∃ J, i + k = J := ⟨_, rfl⟩
      have hJi : (i : Int) + (k : Int) = (J : Int) := by omega
      rw [hJ] at HBk
      have hJm : J ≤ 900000 := by omega
      by_cases hbb : r[k] = l[i + k]
      · have hN := hid (take_next hkr hik hto.out hbb)
        have hbb2 : ((X : Int) != (Y : Int)) = false := by have := hXY.1 hbb; simp; omega
        clear hbb hXY hX hY hJ
        go_wp2_with fail
        refine M2.wp_region_mix [8] 10 (by kernel_rfl) (by kernel_rfl) (by decide) ?_
        simp only [List.take_succ_cons, List.take_zero, List.drop_succ_cons, List.drop_zero]
        with_reducible refine M2.mixL_quiet 8 (by kernel_rfl) ?_
        simp only [List.take_succ_cons, List.take_zero, List.drop_succ_cons, List.drop_zero]
        repeat (go_big_quiet_step (fail))
        with_reducible refine wpQuiet_nil ?_
        with_reducible refine M2.mixL_eff (by decide) ?_
        go_wp2_with ((go_at_call 63; (with_reducible refine (HBk.out _ (by repeat (first | with_reducible exact hb | with_reducible refine Sl.over ?_ _ | with_reducible refine Sl.alloc ?_ _ | with_reducible refine Sl.drew ?_ | exact hb))).mono ?_); rintro _ _ ⟨⟨e6, rfl⟩, rfl⟩))
        refine M2.MixQ.mk (by (try unfold Ov); repeat (first | with_reducible exact ex_over | with_reducible exact over_self _ | with_reducible refine ex_undrew ?_ | with_reducible refine ex_into ?_ _ | with_reducible refine ex_alloc ?_ _ | with_reducible refine ex_drew ?_ | ((with_reducible refine ex_setCell ?_ ?_ _); rotate_left; (first | omega | (focus (simp; done)) | (focus (simp; omega)))) | ((with_reducible refine ex_chg ?_ _ ?_); rotate_left; (first | assumption | (exact Hid.out (by assumption)))) | exact ex_over)) ?_
        with_reducible refine M2.mixL_quiet 1 (by kernel_rfl) ?_
        simp only [List.take_succ_cons, List.take_zero, List.drop_succ_cons, List.drop_zero]
        repeat (go_big_quiet_step (fail))
        with_reducible refine wpQuiet_nil ?_
        with_reducible refine M2.mixL_nil ?_
        with_reducible refine M2.mixL_nil ?_
        go_wp2_with fail
        go_roundw
        case rel => exact ⟨k + 1, by omega, by go_num, (by (try unfold Ov); repeat (first | with_reducible exact ex_over | with_reducible exact over_self _ | with_reducible refine ex_undrew ?_ | with_reducible refine ex_into ?_ _ | with_reducible refine ex_alloc ?_ _ | with_reducible refine ex_drew ?_ | ((with_reducible refine ex_setCell ?_ ?_ _); rotate_left; (first | omega | (focus (simp; done)) | (focus (simp; omega)))) | ((with_reducible refine ex_chg ?_ _ ?_); rotate_left; (first | assumption | (exact Hid.out (by assumption)))) | exact ex_over)), hN⟩
        case measure => simp [intOf]; omega
      · have hN := hid (show res = rxgV 0 0 Vl.zero 30 by
          rw [← HRES.out, if_neg]
          have := take_not hkr hik hbb
          rwa [HRN.out] at this)
        have hbb2 : ((X : Int) != (Y : Int)) = true := by have : ¬ X = Y := fun h => hbb (hXY.2 h); simp; omega
        clear hbb hXY hX hY hJ
        go_wp2_with fail
        refine M2.wp_region_mix [8] 10 (by kernel_rfl) (by kernel_rfl) (by decide) ?_
        simp only [List.take_succ_cons, List.take_zero, List.drop_succ_cons, List.drop_zero]
        with_reducible refine M2.mixL_quiet 8 (by kernel_rfl) ?_
        simp only [List.take_succ_cons, List.take_zero, List.drop_succ_cons, List.drop_zero]
        repeat (go_big_quiet_step (fail))
        with_reducible refine wpQuiet_nil ?_
        with_reducible refine M2.mixL_eff (by decide) ?_
        go_wp2_with ((go_at_call 63; (with_reducible refine (HBk.out _ (by repeat (first | with_reducible exact hb | with_reducible refine Sl.over ?_ _ | with_reducible refine Sl.alloc ?_ _ | with_reducible refine Sl.drew ?_ | exact hb))).mono ?_); rintro _ _ ⟨⟨e6, rfl⟩, rfl⟩))
        refine M2.MixQ.mk (by (try unfold Ov); repeat (first | with_reducible exact ex_over | with_reducible exact over_self _ | with_reducible refine ex_undrew ?_ | with_reducible refine ex_into ?_ _ | with_reducible refine ex_alloc ?_ _ | with_reducible refine ex_drew ?_ | ((with_reducible refine ex_setCell ?_ ?_ _); rotate_left; (first | omega | (focus (simp; done)) | (focus (simp; omega)))) | ((with_reducible refine ex_chg ?_ _ ?_); rotate_left; (first | assumption | (exact Hid.out (by assumption)))) | exact ex_over)) ?_
        with_reducible refine M2.mixL_quiet 1 (by kernel_rfl) ?_
        simp only [List.take_succ_cons, List.take_zero, List.drop_succ_cons, List.drop_zero]
        repeat (go_big_quiet_step (fail))
        with_reducible refine wpQuiet_nil ?_
        with_reducible refine M2.mixL_nil ?_
        with_reducible refine M2.mixL_nil ?_
        go_wp2_with fail
        (try simp only [Exit.inBlock, Exit.then])
        refine bodyPost_ret (v := ?rv63) ?rh63 rfl ?rp63
        case rh63 => (simp only [results, show Tryd.f32.results = #[.tmp 6, .tmp 7, .cell 8 24, .tmp 9] from rfl]; go_simp; rfl)
        exact ⟨(by (try unfold Ov); repeat (first | with_reducible exact ex_over | with_reducible exact over_self _ | with_reducible refine ex_undrew ?_ | with_reducible refine ex_into ?_ _ | with_reducible refine ex_alloc ?_ _ | with_reducible refine ex_drew ?_ | ((with_reducible refine ex_setCell ?_ ?_ _); rotate_left; (first | omega | (focus (simp; done)) | (focus (simp; omega)))) | ((with_reducible refine ex_chg ?_ _ ?_); rotate_left; (first | assumption | (exact Hid.out (by assumption)))) | exact ex_over)), by rw [hN.out]; rfl⟩
    · obtain rfl : k = n := by omega
      have hN := hid (show res = rxgV v (i + k : Nat) t 0 by
        rw [← HRES.out, if_pos]
        have := hto.out
        rwa [← HRN.out, List.take_length, HRN.out] at this)
      obtain ⟨F, hF⟩ : ∃ F, F = [w.heap.size + 1 + 1] := ⟨_, rfl⟩
      have n1 : w.heap.size + 1 + 1 ∈ F := by rw [hF]; simp
      have n2 : w.heap.size + 1 + 1 + 1 + e1.heap.size + e2.heap.size + e3.heap.size + e4.heap.size ∉ F := by rw [hF]; simp; omega
      clear hF
      go_wp2_with fail
      refine M2.wp_region_mixZ (fun w' => ∃ m : Mut, w' = chg F _ m) [7] 9 (by kernel_rfl) (by kernel_rfl) (by decide) (chg_of (Chg.refl _ _)) ?_
      simp only [List.take_succ_cons, List.take_zero, List.drop_succ_cons, List.drop_zero]
      with_reducible refine M2.mixL_quiet 7 (by kernel_rfl) ?_
      simp only [List.take_succ_cons, List.take_zero, List.drop_succ_cons, List.drop_zero]
      repeat (go_big_quiet_step (fail))
      with_reducible refine wpQuiet_nil ?_
      with_reducible refine M2.mixL_eff (by decide) ?_
      go_wp2_with (fail)
      refine M2.MixQ.mk (chg_of (by repeat (first | with_reducible exact Chg.refl _ _ | (focus (refine ChS.chg ?_; (repeat (first | with_reducible exact ChS.refl _ _ | with_reducible refine ChS.drewl ?_ | with_reducible refine ChS.drewr ?_ | with_reducible refine ChS.over ?_ _ | with_reducible refine chS_chgs ?_ _ | ((with_reducible refine chS_set ?_ _ ?_ _); rotate_left; (first | assumption | (focus (simp; done)) | (focus (simp; assumption)))) | with_reducible refine ChS.alloc ?_ _ | ((with_reducible refine ChS.lit ?_ ?_ _ _); rotate_left; (first | assumption | (focus (simp; done)) | (focus (simp; assumption)))) | with_reducible refine ChS.alloc ?_ _)); done)) | with_reducible refine Chg.alloc ?_ _ | with_reducible refine Chg.drew ?_ | with_reducible refine Chg.on ?_ _ | ((with_reducible refine Chg.setCell ?_ ?_ _); rotate_left; (first | (focus (left; assumption)) | (focus (left; simp; done)) | (focus (right; simp; done)) | (focus (right; simp; omega)) | (focus (left; simp; omega)))) | ((with_reducible refine Chg.in_ ?_ _ ?_); rotate_left; (first | assumption | (focus (intro i hi; left; simp at hi; subst hi; assumption)) | exact fun i hi => Or.inl hi | (focus (intro i hi; left; simp [hi]; done)) | (focus (intro i hi; left; simp at hi ⊢; simp [hi]; done)) | (focus (intro i hi; simp at hi ⊢; simp [hi]; done)) | (focus (intro i hi; simp at hi ⊢; omega))))))) ?_
      with_reducible refine M2.mixL_quiet 1 (by kernel_rfl) ?_
      simp only [List.take_succ_cons, List.take_zero, List.drop_succ_cons, List.drop_zero]
      repeat (go_big_quiet_step (fail))
      with_reducible refine wpQuiet_nil ?_
      with_reducible refine M2.mixL_nil ?_
      with_reducible refine M2.mixL_nil ?_
      go_wp2
      (try simp only [Exit.inBlock, Exit.then])
      refine bodyPost_ret (v := ?rv64) ?rh64 rfl ?rp64
      case rh64 => (simp only [results, show Tryd.f32.results = #[.tmp 6, .tmp 7, .cell 8 24, .tmp 9] from rfl]; go_simp; rfl)
      exact ⟨(by (try unfold Ov); repeat (first | with_reducible exact ex_over | with_reducible exact over_self _ | with_reducible refine ex_undrew ?_ | with_reducible refine ex_into ?_ _ | with_reducible refine ex_alloc ?_ _ | with_reducible refine ex_drew ?_ | ((with_reducible refine ex_setCell ?_ ?_ _); rotate_left; (first | omega | (focus (simp; done)) | (focus (simp; omega)))) | ((with_reducible refine ex_chg ?_ _ ?_); rotate_left; (first | assumption | (exact Hid.out (by assumption)))) | exact ex_over)), by rw [hN.out]; rfl⟩

/-- The document's Get, on sound bits. -/
theorem rxget_yes (l : List Bool) (hl : l.length ≤ 800000) (a : Option Addr) (cap : Nat) (at_ : Int) (hat : -9223372036854775808 ≤ at_ ∧ at_ ≤ 9223372036854775807) (s : Vl) (hs : s.wf) (hsd : soundV s = true) (w : World) (hb : SlB w a cap (pack l)) :
    Calls Tryd.prog 32 #[bv a (pack l).length cap l.length, .int .i64 at_, s.v] w (Ret w (rxgV (getX l at_ s).1 (getX l at_ s).2.1 (getX l at_ s).2.2.1 (getX l at_ s).2.2.2)) := by
  by_cases h : at_ < 0 ∨ l.length < at_
  · rw [getX_far h]
    exact rxget_far l hl a cap at_ hat h s hs hsd w hb
  · obtain ⟨i, rfl⟩ : ∃ i : Nat, at_ = i := ⟨at_.toNat, by omega⟩
    obtain ⟨⟨v, n, e⟩, hv⟩ : ∃ p, valueX l i s = p := ⟨_, rfl⟩
    by_cases he : e = 0
    · subst he
      have hle := value_len (l := l) (at_ := i) (s := s) (by rw [hv])
      rw [hv] at hle
      rw [getX_val hv (by omega)]
      have := rxget_val l hl a cap i s hs hsd v n hv (by simp only at hle; omega) w hb
      split
      · rename_i hc; rw [if_pos hc] at this; exact this
      · rename_i hc; rw [if_neg hc] at this; exact this
    · rw [getX_err (by rw [hv]) he h]
      exact rxget_err l hl a cap i (by omega) s hs hsd v n e hv he w hb
end Go.Proofs.YthljlajdkdgieaaDoor
