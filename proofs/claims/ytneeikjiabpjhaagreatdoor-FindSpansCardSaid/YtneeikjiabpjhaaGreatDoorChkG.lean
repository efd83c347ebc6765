/- Walks: chunk.time, chunk.Get. -/
import Derived.Test.YtneeikjiabpjhaaGreatDoorGF
import Derived.Test.YtneeikjiabpjhaaGreatDoorGE
import Derived.Test.YtneeikjiabpjhaaGreatDoorXorJ
namespace Go.Proofs.YtneeikjiabpjhaaGreatDoor
set_option linter.unusedVariables false
set_option linter.unusedSimpArgs false
open Go.RowKit
attribute [local go_sem] over_drew

def TmNo (w : World) (en : Ending) (w' : World) : Prop :=
  ∃ t d n, en = .returned (.tuple #[.int .i64 t, .int .i64 d, .int .i64 n, .bool false]) ∧ ∃ x, w' = over w x

set_option maxRecDepth 100000 in
set_option maxHeartbeats 2000000 in
theorem ctime_no (l : List Bool) (hl : l.length ≤ 700000) (a : Option Addr) (cap : Nat) (at_ : Int) (hat : i64ok at_) (e : En) (he : e.wf) (h : (getT l at_ e).2.2.2 = false) (w : World) (hb : SlB w a cap (pack l)) :
    Calls Tryz.prog 96 #[bv a (pack l).length cap l.length, .int .i64 at_, e.v] w (TmNo w) := by
  have hat0 := hat
  unfold i64ok at hat
  obtain ⟨n, last, delta, val⟩ := e
  obtain ⟨⟨q1, q2⟩, ⟨q3, q4⟩, ⟨q5, q6⟩, hval⟩ := he
  simp only at q1 q2 q3 q4 q5 q6 hval
  unfold getT at h
  by_cases h0 : n = 0
  · subst h0
    simp only [if_true, decide_eq_false_iff_not] at h
    have HB := hid (fun W h1 => bget_any l (by omega) at_ hat 64 (by decide) a cap W h1)
    rw [getN_bad h] at HB
    have HB' : Hid (∀ W, SlB W a cap (pack l) → Calls Tryz.prog 112 #[bv a (pack l).length cap l.length, .int .i64 at_, .int .i64 64] W (Ret W (.tuple #[.int .u64 0, .int .u16 10]))) := HB
    clear HB h
    go_enter Tryz.func96, Tryz.ntmps96
    go_wp2_with (go_at_call 112; (with_reducible refine (HB'.out _ (by exact slA hb)).mono ?_); rintro _ _ ⟨⟨e1, rfl⟩, rfl⟩)
    (try simp only [Exit.inBlock, Exit.then])
    refine bodyPost_ret (v := ?rv51) ?rh51 rfl ?rp51
    case rh51 => (simp only [results, show Tryz.f96.results = #[.tmp 6, .tmp 7, .tmp 8, .tmp 9] from rfl]; go_simp; rfl)
    exact ⟨_, _, _, rfl, (by (try unfold Ov); exact ovA)⟩
  · simp only [if_neg h0] at h
    have h0' : (n == 0) = false := by simp; exact h0
    have HZ := hid (fun W h1 => zget_yes l (by omega) a cap at_ hat W h1)
    obtain ⟨⟨d, nx, er⟩, hg⟩ : ∃ p, getZ l at_ = p := ⟨_, rfl⟩
    rw [hg] at h HZ
    simp only at h
    have hw1 : wrap64 (d + delta) = wz (d + delta) := wrap64_wz _
    have hw2 := wrap64_wz (last + wz (d + delta))
    clear hg
    by_cases hr : er = 0
    · subst hr
      simp only [decide_true, Bool.true_and, decide_eq_false_iff_not] at h
      have HZ' : Hid (∀ W, SlB W a cap (pack l) → Calls Tryz.prog 113 #[bv a (pack l).length cap l.length, .int .i64 at_] W (Ret W (.tuple #[.int .i64 d, .int .i64 nx, .int .u16 0]))) := HZ
      clear HZ
      generalize wz (d + delta) = D at *
      generalize wz (last + D) = T at *
      go_enter Tryz.func96, Tryz.ntmps96
      go_wp2_with (go_at_call 113; (with_reducible refine (HZ'.out _ (by exact slA hb)).mono ?_); rintro _ _ ⟨⟨e1, rfl⟩, rfl⟩)
      refine wp_region_over (by kernel_rfl) (by kernel_rfl) ?_
      repeat (go_big_quiet_step ((fail)))
      refine wpQuiet_nil ?_
      intro _ hw'
      obtain ⟨nq, rfl⟩ := hw'
      go_wp2
      (try simp only [Exit.inBlock, Exit.then])
      refine bodyPost_ret (v := ?rv52) ?rh52 rfl ?rp52
      case rh52 => (simp only [results, show Tryz.f96.results = #[.tmp 6, .tmp 7, .tmp 8, .tmp 9] from rfl]; go_simp; rfl)
      rw [decide_eq_false (show ¬ last < T by omega)]
      exact ⟨_, _, _, rfl, (by (try unfold Ov); exact ovA)⟩
    · have hr' : ((er : Int) == 0) = false := by simp; exact hr
      clear h hr
      generalize wz (d + delta) = D at *
      generalize wz (last + D) = T at *
      go_enter Tryz.func96, Tryz.ntmps96
      go_wp2_with (go_at_call 113; (with_reducible refine (HZ.out _ (by exact slA hb)).mono ?_); rintro _ _ ⟨⟨e1, rfl⟩, rfl⟩)
      refine wp_region_over (by kernel_rfl) (by kernel_rfl) ?_
      repeat (go_big_quiet_step ((fail)))
      refine wpQuiet_nil ?_
      intro _ hw'
      obtain ⟨nq, rfl⟩ := hw'
      go_wp2
      (try simp only [Exit.inBlock, Exit.then])
      refine bodyPost_ret (v := ?rv53) ?rh53 rfl ?rp53
      case rh53 => (simp only [results, show Tryz.f96.results = #[.tmp 6, .tmp 7, .tmp 8, .tmp 9] from rfl]; go_simp; rfl)
      exact ⟨_, _, _, rfl, (by (try unfold Ov); exact ovA)⟩

set_option maxRecDepth 100000 in
set_option maxHeartbeats 2000000 in
theorem ctime_yes (l : List Bool) (hl : l.length ≤ 700000) (a : Option Addr) (cap : Nat) (at_ : Int) (hat : i64ok at_) (e : En) (he : e.wf) (h : (getT l at_ e).2.2.2 = true) (w : World) (hb : SlB w a cap (pack l)) :
    Calls Tryz.prog 96 #[bv a (pack l).length cap l.length, .int .i64 at_, e.v] w (Ret w (.tuple #[.int .i64 (getT l at_ e).1, .int .i64 (getT l at_ e).2.1, .int .i64 (getT l at_ e).2.2.1, .bool true])) := by
  have hok := getT_ok h he
  have hr64 : (getT l at_ e).2.2.1 ≤ 700000 := by have := hok.2.2.1; omega
  have hr0 : 0 ≤ (getT l at_ e).2.2.1 := by have := hok.1; have := hok.2.1; omega
  clear hok
  unfold i64ok at hat
  obtain ⟨n, last, delta, val⟩ := e
  obtain ⟨⟨q1, q2⟩, ⟨q3, q4⟩, ⟨q5, q6⟩, hval⟩ := he
  simp only at q1 q2 q3 q4 q5 q6 hval
  unfold getT at *
  by_cases h0 : n = 0
  · subst h0
    simp only [if_true, decide_eq_true_eq] at h hr64 hr0 ⊢
    have HB := hid (fun W h1 => bget_any l (by omega) at_ hat 64 (by decide) a cap W h1)
    obtain ⟨⟨v, er⟩, hg⟩ : ∃ p, getN l at_ 64 = p := ⟨_, rfl⟩
    rw [hg] at HB h ⊢
    simp only at h ⊢
    subst h
    have HB' : Hid (∀ W, SlB W a cap (pack l) → Calls Tryz.prog 112 #[bv a (pack l).length cap l.length, .int .i64 at_, .int .i64 64] W (Ret W (.tuple #[.int .u64 (v : Nat), .int .u16 0]))) := HB
    have hw1 : wrap64 (v : Int) = wz (v : Int) := wrap64_wz _
    clear HB hg
    generalize wz (v : Int) = V at *
    go_enter Tryz.func96, Tryz.ntmps96
    go_wp2_with (go_at_call 112; (with_reducible refine (HB'.out _ (by exact slA hb)).mono ?_); rintro _ _ ⟨⟨e1, rfl⟩, rfl⟩)
    (try simp only [Exit.inBlock, Exit.then])
    refine bodyPost_ret (v := ?rv54) ?rh54 rfl ?rp54
    case rh54 => (simp only [results, show Tryz.f96.results = #[.tmp 6, .tmp 7, .tmp 8, .tmp 9] from rfl]; go_simp; rfl)
    exact ⟨(by (try unfold Ov); exact ovA), rfl⟩
  · simp only [if_neg h0] at h hr64 hr0 ⊢
    have h0' : (n == 0) = false := by simp; exact h0
    have HZ := hid (fun W h1 => zget_yes l (by omega) a cap at_ hat W h1)
    obtain ⟨⟨d, nx, er⟩, hg⟩ : ∃ p, getZ l at_ = p := ⟨_, rfl⟩
    rw [hg] at h HZ hr64 hr0 ⊢
    simp only [Bool.and_eq_true, decide_eq_true_eq] at h hr64 hr0 ⊢
    obtain ⟨hr, hlt⟩ := h
    subst hr
    have hw1 : wrap64 (d + delta) = wz (d + delta) := wrap64_wz _
    have hw2 := wrap64_wz (last + wz (d + delta))
    have HZ' : Hid (∀ W, SlB W a cap (pack l) → Calls Tryz.prog 113 #[bv a (pack l).length cap l.length, .int .i64 at_] W (Ret W (.tuple #[.int .i64 d, .int .i64 nx, .int .u16 0]))) := HZ
    clear HZ hg
    generalize wz (d + delta) = D at *
    generalize wz (last + D) = T at *
    go_enter Tryz.func96, Tryz.ntmps96
    go_wp2_with (go_at_call 113; (with_reducible refine (HZ'.out _ (by exact slA hb)).mono ?_); rintro _ _ ⟨⟨e1, rfl⟩, rfl⟩)
    refine wp_region_over (by kernel_rfl) (by kernel_rfl) ?_
    repeat (go_big_quiet_step ((fail)))
    refine wpQuiet_nil ?_
    intro _ hw'
    obtain ⟨nq, rfl⟩ := hw'
    go_wp2
    (try simp only [Exit.inBlock, Exit.then])
    refine bodyPost_ret (v := ?rv55) ?rh55 rfl ?rp55
    case rh55 => (simp only [results, show Tryz.f96.results = #[.tmp 6, .tmp 7, .tmp 8, .tmp 9] from rfl]; go_simp; rfl)
    exact ⟨(by (try unfold Ov); exact ovA), rfl⟩

abbrev cgV (p : (Int × Nat) × Int × En × Nat) : Value := .tuple #[smV p.1.1 p.1.2, .int .i64 p.2.1, p.2.2.1.v, .int .u16 (p.2.2.2 : Nat)]

set_option maxRecDepth 100000 in
set_option maxHeartbeats 4000000 in
theorem cget_yes (l : List Bool) (hl : l.length ≤ 700000) (a : Option Addr) (cap : Nat) (at_ : Int) (hat : i64ok at_) (e : En) (he : e.wf) (hse : soundE e = true) (w : World) (hT : TabW w) (hb : SlB w a cap (pack l)) :
    Calls Tryz.prog 77 #[bv a (pack l).length cap l.length, .int .i64 at_, e.v] w (Ret w (cgV (getC l at_ e))) := by
  have HW := hid (fun W hW => cwrong_any (pack l) pack_lt (pack_len_le (by omega)) l.length (by omega) a cap e he W hW)
  rw [sound_pack, hse, show wrongC true true = 0 from rfl] at HW
  have HW' : Hid (∀ W, SlB W a cap (pack l) → Calls Tryz.prog 68 #[bv a (pack l).length cap l.length, e.v] W (Ret W (.int .u16 0))) := HW
  clear HW
  cases ht : (getT l at_ e).2.2.2
  · have HT := hid (fun W h1 => ctime_no l hl a cap at_ hat e he ht W h1)
    have e1 : getC l at_ e = ((0, 0), 0, En.zero, 61) := by unfold getC; rw [if_pos ht]
    rw [e1]
    clear ht e1 hse he
    go_enter Tryz.func77, Tryz.ntmps77
    go_wp2_with (first | (go_at_call 68; (with_reducible refine (HW'.out _ (by exact slA hb)).mono ?_); rintro _ _ ⟨⟨e1, rfl⟩, rfl⟩) | (go_at_call 96; (with_reducible refine (HT.out _ (by exact slA hb)).mono ?_); rintro _ _ ⟨t2, d2, n2, rfl, ⟨e2, rfl⟩⟩))
    (try simp only [Exit.inBlock, Exit.then])
    refine bodyPost_ret (v := ?rv57) ?rh57 rfl ?rp57
    case rh57 => (simp only [results, show Tryz.f77.results = #[.cell 6 34, .tmp 7, .cell 8 92, .tmp 9] from rfl]; go_simp; rfl)
    exact ⟨(by (try unfold Ov); exact ovA), rfl⟩
  · have HT := hid (fun W h1 => ctime_yes l hl a cap at_ hat e he ht W h1)
    have hok := getT_ok ht he
    have hval := he.2.2.2
    have hsv := soundE_val hse
    have hx : getC l at_ e = if (getX l (getT l at_ e).2.2.1 e.val).2.2.2 ≠ 0 then ((0, 0), 0, En.zero, 61) else (((getT l at_ e).1, (getX l (getT l at_ e).2.2.1 e.val).1), (getX l (getT l at_ e).2.2.1 e.val).2.1, ⟨wz (e.n + 1), (getT l at_ e).1, (getT l at_ e).2.1, (getX l (getT l at_ e).2.2.1 e.val).2.2.1⟩, 0) := by
      conv => lhs; unfold getC
      rw [if_neg (by rw [ht]; decide)]
    rw [hx]
    clear hx
    obtain ⟨⟨t, d, n, b⟩, hg⟩ : ∃ p, getT l at_ e = p := ⟨_, rfl⟩
    rw [hg] at HT hok ⊢
    simp only at HT hok ⊢
    have hn64 : -9223372036854775808 ≤ n ∧ n ≤ 9223372036854775807 := by have := hok.1; have := hok.2.1; have := hok.2.2.1; omega
    have HX := hid (fun W h1 h2 => xget_yes l (by omega) a cap n hn64 e.val hval hsv W h1 h2)
    have hxv := getX_lt (l := l) (at_ := n) hval
    obtain ⟨⟨v, m, s, er⟩, hgx⟩ : ∃ p, getX l n e.val = p := ⟨_, rfl⟩
    rw [hgx] at HX hxv ⊢
    simp only at HX hxv ⊢
    clear hgx hg ht hok hsv hse
    obtain ⟨n0, last, delta, val⟩ := e
    obtain ⟨⟨q1, q2⟩, ⟨q3, q4⟩, ⟨q5, q6⟩, hval1, hval2, hval3⟩ := he
    simp only at q1 q2 q3 q4 q5 q6 hval1 hval2 hval3 HX
    by_cases hr : er = 0
    · subst hr
      rw [if_neg (by decide)]
      have hw2 : wrap64 (n0 + 1) = wz (n0 + 1) := wrap64_wz _
      have HX' : Hid (∀ W, TabW W → SlB W a cap (pack l) → Calls Tryz.prog 97 #[bv a (pack l).length cap l.length, .int .i64 n, val.v] W (Ret W (.tuple #[.int .u64 (v : Nat), .int .i64 m, s.v, .int .u16 0]))) := HX
      clear HX
      generalize wz (n0 + 1) = n1 at *
      go_enter Tryz.func77, Tryz.ntmps77
      go_wp2_with (first | (go_at_call 68; (with_reducible refine (HW'.out _ (by exact slA hb)).mono ?_); rintro _ _ ⟨⟨e1, rfl⟩, rfl⟩) | (go_at_call 96; (with_reducible refine (HT.out _ (by exact slA hb)).mono ?_); rintro _ _ ⟨⟨e2, rfl⟩, rfl⟩) | (go_at_call 97; (with_reducible refine (HX'.out _ (by exact tabA hT) (by exact slA hb)).mono ?_); rintro _ _ ⟨⟨e3, rfl⟩, rfl⟩))
      obtain ⟨F, hF⟩ : ∃ F, F = [w.heap.size + 1 + 1, w.heap.size + 1 + 1 + 1] := ⟨_, rfl⟩
      have n1 : w.heap.size + 1 + 1 ∈ F := by rw [hF]; simp
      have n2 : w.heap.size + 1 + 1 + 1 ∈ F := by rw [hF]; simp
      have n3 : w.heap.size + 1 ∉ F := by rw [hF]; simp <;> omega
      have n4 : w.heap.size ∉ F := by rw [hF]; simp <;> omega
      have n5 : w.heap.size + 1 + 1 + 1 + 1 + e1.heap.size + e2.heap.size + e3.heap.size ∉ F := by rw [hF]; simp; omega
      clear hF
      refine M2.wp_region_mixZ (fun w' => ∃ m : Mut, w' = chg F _ m) [11, 13] 15 (by kernel_rfl) (by kernel_rfl) (by decide) (chg_of (Chg.refl _ _)) ?_
      simp only [List.take_succ_cons, List.take_zero, List.drop_succ_cons, List.drop_zero]
      with_reducible refine M2.mixL_quiet 11 (by kernel_rfl) ?_
      simp only [List.take_succ_cons, List.take_zero, List.drop_succ_cons, List.drop_zero]
      repeat (go_big_quiet_step (fail))
      with_reducible refine wpQuiet_nil ?_
      with_reducible refine M2.mixL_eff (by decide) ?_
      go_wp2_with (fail)
      refine M2.MixQ.mk (chg_of (by exact chA)) ?_
      with_reducible refine M2.mixL_quiet 1 (by kernel_rfl) ?_
      simp only [List.take_succ_cons, List.take_zero, List.drop_succ_cons, List.drop_zero]
      repeat (go_big_quiet_step (fail))
      with_reducible refine wpQuiet_nil ?_
      with_reducible refine M2.mixL_eff (by decide) ?_
      go_wp2_with (fail)
      refine M2.MixQ.mk (chg_of (by exact chA)) ?_
      with_reducible refine M2.mixL_quiet 1 (by kernel_rfl) ?_
      simp only [List.take_succ_cons, List.take_zero, List.drop_succ_cons, List.drop_zero]
      repeat (go_big_quiet_step (fail))
      with_reducible refine wpQuiet_nil ?_
      with_reducible refine M2.mixL_nil ?_
      with_reducible refine M2.mixL_nil ?_
      go_wp2_with fail
      (try simp only [Exit.inBlock, Exit.then])
      refine bodyPost_ret (v := ?rv58) ?rh58 rfl ?rp58
      case rh58 => (simp only [results, show Tryz.f77.results = #[.cell 6 34, .tmp 7, .cell 8 92, .tmp 9] from rfl]; go_simp; rfl)
      exact ⟨(by (try unfold Ov); exact ovA), rfl⟩
    · rw [if_pos hr]
      have hr' : ((er : Int) != 0) = true := by simp; exact hr
      clear hr
      go_enter Tryz.func77, Tryz.ntmps77
      go_wp2_with (first | (go_at_call 68; (with_reducible refine (HW'.out _ (by exact slA hb)).mono ?_); rintro _ _ ⟨⟨e1, rfl⟩, rfl⟩) | (go_at_call 96; (with_reducible refine (HT.out _ (by exact slA hb)).mono ?_); rintro _ _ ⟨⟨e2, rfl⟩, rfl⟩) | (go_at_call 97; (with_reducible refine (HX.out _ (by exact tabA hT) (by exact slA hb)).mono ?_); rintro _ _ ⟨⟨e3, rfl⟩, rfl⟩))
      (try simp only [Exit.inBlock, Exit.then])
      refine bodyPost_ret (v := ?rv59) ?rh59 rfl ?rp59
      case rh59 => (simp only [results, show Tryz.f77.results = #[.cell 6 34, .tmp 7, .cell 8 92, .tmp 9] from rfl]; go_simp; rfl)
      exact ⟨(by (try unfold Ov); exact ovA), rfl⟩
end Go.Proofs.YtneeikjiabpjhaaGreatDoor
