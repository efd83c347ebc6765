import Derived.Test.YtnffcckhdedhpaaGreatDoorGF
import Derived.Test.YtnffcckhdedhpaaGreatDoorGE
import Derived.Test.YtnffcckhdedhpaaGreatDoorNJ
import Derived.Test.YtnffcckhdedhpaaGreatDoorNI
import Derived.Test.YtnffcckhdedhpaaGreatDoorMix2
import Derived.RangeFuncMany
import Derived.RangeFuncLeaves
import Derived.OwnWalkIn
import Derived.OrdersIn
namespace Go.Proofs.YtnffcckhdedhpaaGreatDoor
set_option linter.unusedVariables false
set_option linter.unusedSimpArgs false
set_option maxRecDepth 100000
set_option maxHeartbeats 8000000
section
open Go.RowKit
attribute [local go_sem] odr
def TmNo (w : World) (en : Ending) (w' : World) : Prop :=
 ∃ t d n, en = .returned (.tuple #[.int .i64 t, .int .i64 d, .int .i64 n, .bool false]) ∧ ∃ x, w' = over w x
theorem ctime_no (l : List Bool) (hl : l.length ≤ 700000) (a : Option Addr) (cap : Nat) (at_ : Int) (hat : i64ok at_) (e : En) (he : e.wf) (h : (getT l at_ e).2.2.2 = false) (w : World) (hb : SlB w a cap (pack l)) :
    Calls Tryz.prog 125 #[bv a (pack l).length cap l.length, .int .i64 at_, e.v] w (TmNo w) := by
  have hat0 := hat; unfold i64ok at hat; obtain ⟨n, last, delta, val⟩ := e; obtain ⟨⟨q1, q2⟩, ⟨q3, q4⟩, ⟨q5, q6⟩, hval⟩ := he; simp only at q1 q2 q3 q4 q5 q6 hval; unfold getT at h; by_cases h0 : n = 0
  · subst h0; simp only [if_true, decide_eq_false_iff_not] at h; have HB := hid (fun W h1 => bget_any l (by omega) at_ hat 64 (by decide) a cap W h1); rw [getN_bad h] at HB; have HB' : Hid (∀ W, SlB W a cap (pack l) → Calls Tryz.prog 144 #[bv a (pack l).length cap l.length, .int .i64 at_, .int .i64 64] W (Ret W (.tuple #[.int .u64 0, .int .u16 10]))) := HB; clear HB h
    go_enter Tryz.func125, Tryz.ntmps125; go_wp2_with (go_at_call 144; (with_reducible refine (HB'.out _ (by exact slA hb)).mono ?_); rintro _ _ ⟨⟨e1, rfl⟩, rfl⟩)
    (try simp only [Exit.inBlock, Exit.then])
    refine bodyPost_ret (v := ?rv51) ?rh51 rfl ?rp51
    case rh51 => (simp only [results, show Tryz.f125.results = #[.tmp 6, .tmp 7, .tmp 8, .tmp 9] from rfl]; go_simp; rfl)
    exact ⟨_, _, _, rfl, ovA⟩
  · simp only [if_neg h0] at h; have h0' : (n == 0) = false := by simp; exact h0
    have HZ := hid (fun W h1 => zget_yes l (by omega) a cap at_ hat W h1); obtain ⟨⟨d, nx, er⟩, hg⟩ : ∃ p, getZ l at_ = p := ⟨_, rfl⟩; rw [hg] at h HZ; simp only at h; have hw1 : wrap64 (d + delta) = wz (d + delta) := wrap64_wz _; have hw2 := wrap64_wz (last + wz (d + delta)); clear hg; by_cases hr : er = 0
    · subst hr; simp only [decide_true, Bool.true_and, decide_eq_false_iff_not] at h; have HZ' : Hid (∀ W, SlB W a cap (pack l) → Calls Tryz.prog 145 #[bv a (pack l).length cap l.length, .int .i64 at_] W (Ret W (.tuple #[.int .i64 d, .int .i64 nx, .int .u16 0]))) := HZ; clear HZ; generalize wz (d + delta) = D at *; generalize wz (last + D) = T at *
      go_enter Tryz.func125, Tryz.ntmps125; go_wp2_with (go_at_call 145; (with_reducible refine (HZ'.out _ (by exact slA hb)).mono ?_); rintro _ _ ⟨⟨e1, rfl⟩, rfl⟩)
      refine wro (by kernel_rfl) (by kernel_rfl) ?_; repeat (go_big_quiet_step ((fail)))
      refine wpQuiet_nil ?_; intro _ hw'; obtain ⟨nq, rfl⟩ := hw'; go_wp2
      (try simp only [Exit.inBlock, Exit.then])
      refine bodyPost_ret (v := ?rv52) ?rh52 rfl ?rp52
      case rh52 => (simp only [results, show Tryz.f125.results = #[.tmp 6, .tmp 7, .tmp 8, .tmp 9] from rfl]; go_simp; rfl)
      rw [decide_eq_false (show ¬ last < T by omega)]; exact ⟨_, _, _, rfl, ovA⟩
    · have hr' : ((er : Int) == 0) = false := by simp; exact hr
      clear h hr; generalize wz (d + delta) = D at *; generalize wz (last + D) = T at *
      go_enter Tryz.func125, Tryz.ntmps125; go_wp2_with (go_at_call 145; (with_reducible refine (HZ.out _ (by exact slA hb)).mono ?_); rintro _ _ ⟨⟨e1, rfl⟩, rfl⟩)
      refine wro (by kernel_rfl) (by kernel_rfl) ?_; repeat (go_big_quiet_step ((fail)))
      refine wpQuiet_nil ?_; intro _ hw'; obtain ⟨nq, rfl⟩ := hw'; go_wp2
      (try simp only [Exit.inBlock, Exit.then])
      refine bodyPost_ret (v := ?rv53) ?rh53 rfl ?rp53
      case rh53 => (simp only [results, show Tryz.f125.results = #[.tmp 6, .tmp 7, .tmp 8, .tmp 9] from rfl]; go_simp; rfl)
      exact ⟨_, _, _, rfl, ovA⟩
theorem ctime_yes (l : List Bool) (hl : l.length ≤ 700000) (a : Option Addr) (cap : Nat) (at_ : Int) (hat : i64ok at_) (e : En) (he : e.wf) (h : (getT l at_ e).2.2.2 = true) (w : World) (hb : SlB w a cap (pack l)) :
    Calls Tryz.prog 125 #[bv a (pack l).length cap l.length, .int .i64 at_, e.v] w (Ret w (.tuple #[.int .i64 (getT l at_ e).1, .int .i64 (getT l at_ e).2.1, .int .i64 (getT l at_ e).2.2.1, .bool true])) := by
  have hok := getT_ok h he; have hr64 : (getT l at_ e).2.2.1 ≤ 700000 := by have := hok.2.2.1; omega
  have hr0 : 0 ≤ (getT l at_ e).2.2.1 := by have := hok.1; have := hok.2.1; omega
  clear hok; unfold i64ok at hat; obtain ⟨n, last, delta, val⟩ := e; obtain ⟨⟨q1, q2⟩, ⟨q3, q4⟩, ⟨q5, q6⟩, hval⟩ := he; simp only at q1 q2 q3 q4 q5 q6 hval; unfold getT at *; by_cases h0 : n = 0
  · subst h0; simp only [if_true, decide_eq_true_eq] at h hr64 hr0 ⊢; have HB := hid (fun W h1 => bget_any l (by omega) at_ hat 64 (by decide) a cap W h1); obtain ⟨⟨v, er⟩, hg⟩ : ∃ p, getN l at_ 64 = p := ⟨_, rfl⟩; rw [hg] at HB h ⊢; simp only at h ⊢; subst h; have HB' : Hid (∀ W, SlB W a cap (pack l) → Calls Tryz.prog 144 #[bv a (pack l).length cap l.length, .int .i64 at_, .int .i64 64] W (Ret W (.tuple #[.int .u64 (v : Nat), .int .u16 0]))) := HB; have hw1 : wrap64 (v : Int) = wz (v : Int) := wrap64_wz _; clear HB hg; generalize wz (v : Int) = V at *
    go_enter Tryz.func125, Tryz.ntmps125; go_wp2_with (go_at_call 144; (with_reducible refine (HB'.out _ (by exact slA hb)).mono ?_); rintro _ _ ⟨⟨e1, rfl⟩, rfl⟩)
    (try simp only [Exit.inBlock, Exit.then])
    refine bodyPost_ret (v := ?rv54) ?rh54 rfl ?rp54
    case rh54 => (simp only [results, show Tryz.f125.results = #[.tmp 6, .tmp 7, .tmp 8, .tmp 9] from rfl]; go_simp; rfl)
    exact ⟨ovA, rfl⟩
  · simp only [if_neg h0] at h hr64 hr0 ⊢; have h0' : (n == 0) = false := by simp; exact h0
    have HZ := hid (fun W h1 => zget_yes l (by omega) a cap at_ hat W h1); obtain ⟨⟨d, nx, er⟩, hg⟩ : ∃ p, getZ l at_ = p := ⟨_, rfl⟩; rw [hg] at h HZ hr64 hr0 ⊢; simp only [Bool.and_eq_true, decide_eq_true_eq] at h hr64 hr0 ⊢; obtain ⟨hr, hlt⟩ := h; subst hr; have hw1 : wrap64 (d + delta) = wz (d + delta) := wrap64_wz _; have hw2 := wrap64_wz (last + wz (d + delta)); have HZ' : Hid (∀ W, SlB W a cap (pack l) → Calls Tryz.prog 145 #[bv a (pack l).length cap l.length, .int .i64 at_] W (Ret W (.tuple #[.int .i64 d, .int .i64 nx, .int .u16 0]))) := HZ; clear HZ hg; generalize wz (d + delta) = D at *; generalize wz (last + D) = T at *
    go_enter Tryz.func125, Tryz.ntmps125; go_wp2_with (go_at_call 145; (with_reducible refine (HZ'.out _ (by exact slA hb)).mono ?_); rintro _ _ ⟨⟨e1, rfl⟩, rfl⟩)
    refine wro (by kernel_rfl) (by kernel_rfl) ?_; repeat (go_big_quiet_step ((fail)))
    refine wpQuiet_nil ?_; intro _ hw'; obtain ⟨nq, rfl⟩ := hw'; go_wp2
    (try simp only [Exit.inBlock, Exit.then])
    refine bodyPost_ret (v := ?rv55) ?rh55 rfl ?rp55
    case rh55 => (simp only [results, show Tryz.f125.results = #[.tmp 6, .tmp 7, .tmp 8, .tmp 9] from rfl]; go_simp; rfl)
    exact ⟨ovA, rfl⟩
abbrev cgV (p : (Int × Nat) × Int × En × Nat) : Value := .tuple #[smV p.1.1 p.1.2, .int .i64 p.2.1, p.2.2.1.v, .int .u16 (p.2.2.2 : Nat)]
theorem cget_yes (l : List Bool) (hl : l.length ≤ 700000) (a : Option Addr) (cap : Nat) (at_ : Int) (hat : i64ok at_) (e : En) (he : e.wf) (hse : soundE e = true) (w : World) (hT : TabW w) (hb : SlB w a cap (pack l)) :
    Calls Tryz.prog 101 #[bv a (pack l).length cap l.length, .int .i64 at_, e.v] w (Ret w (cgV (getC l at_ e))) := by
  have HW := hid (fun W hW => cwrong_any (pack l) pack_lt (pkl (by omega)) l.length (by omega) a cap e he W hW); rw [spk, hse, show wrongC true true = 0 from rfl] at HW; have HW' : Hid (∀ W, SlB W a cap (pack l) → Calls Tryz.prog 77 #[bv a (pack l).length cap l.length, e.v] W (Ret W (.int .u16 0))) := HW; clear HW; cases ht : (getT l at_ e).2.2.2
  · have HT := hid (fun W h1 => ctime_no l hl a cap at_ hat e he ht W h1); have e1 : getC l at_ e = ((0, 0), 0, En.zero, 61) := by unfold getC; rw [if_pos ht]
    rw [e1]; clear ht e1 hse he
    go_enter Tryz.func101, Tryz.ntmps101; go_wp2_with (first | (go_at_call 77; (with_reducible refine (HW'.out _ (by exact slA hb)).mono ?_); rintro _ _ ⟨⟨e1, rfl⟩, rfl⟩) | (go_at_call 125; (with_reducible refine (HT.out _ (by exact slA hb)).mono ?_); rintro _ _ ⟨t2, d2, n2, rfl, ⟨e2, rfl⟩⟩))
    (try simp only [Exit.inBlock, Exit.then])
    refine bodyPost_ret (v := ?rv57) ?rh57 rfl ?rp57
    case rh57 => (simp only [results, show Tryz.f101.results = #[.cell 6 38, .tmp 7, .cell 8 111, .tmp 9] from rfl]; go_simp; rfl)
    exact ⟨ovA, rfl⟩
  · have HT := hid (fun W h1 => ctime_yes l hl a cap at_ hat e he ht W h1); have hok := getT_ok ht he; have hval := he.2.2.2; have hsv := soundE_val hse; have hx : getC l at_ e = if (getX l (getT l at_ e).2.2.1 e.val).2.2.2 ≠ 0 then ((0, 0), 0, En.zero, 61) else (((getT l at_ e).1, (getX l (getT l at_ e).2.2.1 e.val).1), (getX l (getT l at_ e).2.2.1 e.val).2.1, ⟨wz (e.n + 1), (getT l at_ e).1, (getT l at_ e).2.1, (getX l (getT l at_ e).2.2.1 e.val).2.2.1⟩, 0) := by
     conv => lhs; unfold getC
     rw [if_neg (by rw [ht]; decide)]
    rw [hx]; clear hx; obtain ⟨⟨t, d, n, b⟩, hg⟩ : ∃ p, getT l at_ e = p := ⟨_, rfl⟩; rw [hg] at HT hok ⊢; simp only at HT hok ⊢; have hn64 : -9223372036854775808 ≤ n ∧ n ≤ 9223372036854775807 := by have := hok.1; have := hok.2.1; have := hok.2.2.1; omega
    have HX := hid (fun W h1 h2 => xget_yes l (by omega) a cap n hn64 e.val hval hsv W h1 h2); have hxv := getX_lt (l := l) (at_ := n) hval; obtain ⟨⟨v, m, s, er⟩, hgx⟩ : ∃ p, getX l n e.val = p := ⟨_, rfl⟩; rw [hgx] at HX hxv ⊢; simp only at HX hxv ⊢; clear hgx hg ht hok hsv hse; obtain ⟨n0, last, delta, val⟩ := e; obtain ⟨⟨q1, q2⟩, ⟨q3, q4⟩, ⟨q5, q6⟩, hval1, hval2, hval3⟩ := he; simp only at q1 q2 q3 q4 q5 q6 hval1 hval2 hval3 HX; by_cases hr : er = 0
    · subst hr; rw [if_neg (by decide)]; have hw2 : wrap64 (n0 + 1) = wz (n0 + 1) := wrap64_wz _; have HX' : Hid (∀ W, TabW W → SlB W a cap (pack l) → Calls Tryz.prog 126 #[bv a (pack l).length cap l.length, .int .i64 n, val.v] W (Ret W (.tuple #[.int .u64 (v : Nat), .int .i64 m, s.v, .int .u16 0]))) := HX; clear HX; generalize wz (n0 + 1) = n1 at *
      go_enter Tryz.func101, Tryz.ntmps101; go_wp2_with (first | (go_at_call 77; (with_reducible refine (HW'.out _ (by exact slA hb)).mono ?_); rintro _ _ ⟨⟨e1, rfl⟩, rfl⟩) | (go_at_call 125; (with_reducible refine (HT.out _ (by exact slA hb)).mono ?_); rintro _ _ ⟨⟨e2, rfl⟩, rfl⟩) | (go_at_call 126; (with_reducible refine (HX'.out _ (by exact tabA hT) (by exact slA hb)).mono ?_); rintro _ _ ⟨⟨e3, rfl⟩, rfl⟩))
      obtain ⟨F, hF⟩ : ∃ F, F = [w.heap.size + 1 + 1, w.heap.size + 1 + 1 + 1] := ⟨_, rfl⟩; have n1 : w.heap.size + 1 + 1 ∈ F := by rw [hF]; simp
      have n2 : w.heap.size + 1 + 1 + 1 ∈ F := by rw [hF]; simp
      have n3 : w.heap.size + 1 ∉ F := by rw [hF]; simp <;> omega
      have n4 : w.heap.size ∉ F := by rw [hF]; simp <;> omega
      have n5 : w.heap.size + 1 + 1 + 1 + 1 + e1.heap.size + e2.heap.size + e3.heap.size ∉ F := by rw [hF]; simp; omega
      clear hF; refine M2.wrz (fun w' => ∃ m : Mut, w' = chg F _ m) [11, 13] 15 (by kernel_rfl) (by kernel_rfl) (by decide) (chg_of (Chg.refl _ _)) ?_; simp only [M2.td]; with_reducible refine M2.mlq 11 (by kernel_rfl) ?_
      simp only [M2.td]; repeat (go_big_quiet_step (fail))
      with_reducible refine wpQuiet_nil ?_
      with_reducible refine M2.mixL_eff (by decide) ?_
      go_wp2_with (fail)
      refine M2.MixQ.mk (chg_of (by exact chA)) ?_; with_reducible refine M2.mlq 1 (by kernel_rfl) ?_
      simp only [M2.td]; repeat (go_big_quiet_step (fail))
      with_reducible refine wpQuiet_nil ?_
      with_reducible refine M2.mixL_eff (by decide) ?_
      go_wp2_with (fail)
      refine M2.MixQ.mk (chg_of (by exact chA)) ?_; with_reducible refine M2.mlq 1 (by kernel_rfl) ?_
      simp only [M2.td]; repeat (go_big_quiet_step (fail))
      with_reducible refine wpQuiet_nil ?_
      with_reducible refine M2.mln ?_
      with_reducible refine M2.mln ?_
      go_wp2_with fail
      (try simp only [Exit.inBlock, Exit.then])
      refine bodyPost_ret (v := ?rv58) ?rh58 rfl ?rp58
      case rh58 => (simp only [results, show Tryz.f101.results = #[.cell 6 38, .tmp 7, .cell 8 111, .tmp 9] from rfl]; go_simp; rfl)
      exact ⟨ovA, rfl⟩
    · rw [if_pos hr]; have hr' : ((er : Int) != 0) = true := by simp; exact hr
      clear hr
      go_enter Tryz.func101, Tryz.ntmps101; go_wp2_with (first | (go_at_call 77; (with_reducible refine (HW'.out _ (by exact slA hb)).mono ?_); rintro _ _ ⟨⟨e1, rfl⟩, rfl⟩) | (go_at_call 125; (with_reducible refine (HT.out _ (by exact slA hb)).mono ?_); rintro _ _ ⟨⟨e2, rfl⟩, rfl⟩) | (go_at_call 126; (with_reducible refine (HX.out _ (by exact tabA hT) (by exact slA hb)).mono ?_); rintro _ _ ⟨⟨e3, rfl⟩, rfl⟩))
      (try simp only [Exit.inBlock, Exit.then])
      refine bodyPost_ret (v := ?rv59) ?rh59 rfl ?rp59
      case rh59 => (simp only [results, show Tryz.f101.results = #[.cell 6 38, .tmp 7, .cell 8 111, .tmp 9] from rfl]; go_simp; rfl)
      exact ⟨ovA, rfl⟩
end
section
open Go.RowKit
namespace M2
section
variable {P : Program}
theorem any_of_mixZ {Q' : Exit → Act → World → Prop} {a : Act} {w : World} {l : List Oper} (C : World → Prop) (E : List Nat) (z : Nat) (hm : P.follows .mixedOrders = true) (hB : Region.mixB .any l.toArray E z = true) (hz : z ≤ l.length) (hC : C w.drew)
    (h : wpMixL P l.toArray C E (fun a' w' => wpMixL P l.toArray (fun _ => True) E (fun a' w' => Q' .normal a' w') z (l.drop z) a' w') 0 (l.take z) a w.drew) : wpAny P .any l.toArray Q' l.toArray.size (Array.replicate l.toArray.size false) a w.drew := by
  simp only [Region.mixB, Bool.and_eq_true] at hB; obtain ⟨⟨hB1, hB2⟩, hB3⟩ := hB; have hcov := covB_spec hB3; have h0 : ∀ j, (Array.replicate l.toArray.size false).getD j false = false := fun j => by
   rw [Array.getD_eq_getD_getElem?, Array.getElem?_replicate]; split <;> rfl
  refine wpAny_of_mix (E := E) (z := z) (C := C) (Q := fun a' w' => Q' .normal a' w') (fun _ _ h => h) hcov _ _ _ _ (fun _ => hC) (fun j oj _ hl => by rw [h0] at hl; cases hl) ?_
  have := wpAnyM_lex (md := .any) (C := C) (E := E) (z := z) (Q := fun a' w' => Q' .normal a' w') hB1 hcov l 0 (Array.replicate l.toArray.size false) a w.drew (fun _ => hC) (fun j oj _ hl => by rw [h0] at hl; cases hl) (fun j => by simp)
    (fun j hj => absurd hj (Nat.not_lt_zero j)) (fun j hj => by rw [h0] at hj; cases hj) (by simp) (by simp) (by simpa using hB2) (mixS_of z l 0 a w.drew hC (fun j => by simp) (by omega) hz h)
  simpa using this
end
end M2
/-! ### A round's operations are carried out as everywhere -/
section
variable {P : Program} {r n : Nat} {ops : Array Oper} {Q : Exit → Act → World → Prop}
theorem calls_lift {f : FuncId} {args : Array Value} {w : World} {R : Ending → World → Prop} (h : Calls P f args w R) : CallsIn (Fence.wide.inRound r) n P f args w R := by
 have h1 := (callsIn_wide (n := n)).2 h; exact ⟨trivial, fun cs hr => h1.2 cs hr⟩
theorem rows_lift {row : String} {args : Array Value} {w : World} {R : Value → World → Prop} (h : Rows P row args w R) : RowsIn (Fence.wide.inRound r) n P row args w R := by
 intro c cs _; obtain ⟨v, w', h1, h2⟩ := h c cs; exact ⟨v, w', h1, (stepsIn_wide.2 h2 : StepsIn (Machine.fenced P Fence.wide) P _ _)⟩
theorem oper_lift {o : Oper} (hnd : ∀ c, o.op ≠ .defer c) {K K' : Act → World → Prop} (hK : ∀ a w, K a w → K' a w) {a : Act} {w : World} (h : o.wp P a w K Q) : o.wpIn (Fence.wide.inRound r) n P a w K' Q := by
 unfold Oper.wp at h; unfold Oper.wpIn; refine ⟨fun _ _ => trivial, ?_⟩; rw [show o.semAt (Fence.wide.inRound r).round a.eval = execOp a.eval o from Oper.semAt_some r _ _ hnd]; generalize (execOp a.eval o).run P w = x at *; cases x with
 | ok x w' =>
  cases x <;> simp only [Oper.upon, Oper.uponIn] at h ⊢
  all_goals first
    | exact hK _ _ h
    | exact h.elim
    | exact ⟨fun hd => (by cases hd), calls_lift (h.mono (fun e w'' he => by cases e <;> first | exact hK _ _ he | exact he))⟩
    | exact ⟨fun hd => (by cases hd), rows_lift (h.mono (fun _ _ he => hK _ _ he))⟩
 | halt x w' => cases x <;> simp only [Oper.upon, Oper.uponIn] at h ⊢ <;> exact h
variable (hQ : ¬ LetsOut Q)
include hQ
theorem list_lift {l : List Oper} (hnd : ∀ o ∈ l, ∀ c, o.op ≠ .defer c) : ∀ {a : Act} {w : World}, wpList P ops Q l a w → wpListIn (Fence.wide.inRound r) n P ops Q l a w := by
 induction l with
 | nil => exact fun h => h
 | cons o l ih =>
  intro a w h; simp only [wpList, wpListIn] at h ⊢; split
  · rename_i hw
    rw [if_pos hw] at h; rcases h with h | ⟨_, h⟩
    · exact oper_lift (hnd o (by simp)) (fun a w => ih (fun o' h' => hnd o' (by simp [h']))) h
    · exact absurd h hQ
  · rename_i hw
    rw [if_neg hw] at h; exact ⟨fun _ _ => trivial, ih (fun o' h' => hnd o' (by simp [h'])) h⟩
theorem region_lift {id : Nat} {l : List Oper} (hnd : (l.all fun o => match o.op with | .defer _ => false | _ => true) = true) {a : Act} {w : World} (h : wpList P l.toArray Q l a w) : (Code.region id l.toArray false).wpIn (Fence.wide.inRound r) n P Q a w := by
 refine wpIn_region_lit (list_lift hQ ?_ h); intro o ho c hc; have := List.all_eq_true.1 hnd o ho; rw [hc] at this; cases this
theorem op_lift {md : Region.Mode} (hnd : ∀ (i : Nat) (o : Oper), ops[i]? = some o → ∀ c, o.op ≠ .defer c) {i : Nat} {K K' : Act → World → Prop} (hK : ∀ a w, K a w → K' a w) {a : Act} {w : World} (h : wpOp P ops Q i K a w) : wpOpIn (Fence.wide.inRound r) n P ops Q i K' a w := by
 unfold wpOp at h; unfold wpOpIn; cases ho : ops[i]? with
 | none => rw [ho] at h; exact hK _ _ h
 | some o =>
  rw [ho] at h; simp only at h ⊢; split
  · rename_i hw
    rw [if_pos hw] at h; rcases h with h | ⟨_, h⟩
    · exact oper_lift (hnd i o ho) hK h
    · exact absurd h hQ
  · rename_i hw
    rw [if_neg hw] at h; exact ⟨fun _ _ => trivial, hK _ _ h⟩
theorem any_lift {md : Region.Mode} (hnd : ∀ (i : Nat) (o : Oper), ops[i]? = some o → ∀ c, o.op ≠ .defer c) : ∀ (fuel : Nat) (listed : Array Bool) (a : Act) (w : World), wpAny P md ops Q fuel listed a w → wpAnyIn (Fence.wide.inRound r) n P md ops Q fuel listed a w := by
 intro fuel
 induction fuel with
 | zero => exact fun _ _ _ h => h
 | succ k ih => exact fun listed a w h => ⟨h.1, fun i hi => op_lift (md := md) hQ hnd (fun a w => ih _ a w) (h.2 i hi)⟩
theorem mixZ_lift {id : Nat} {a : Act} {w : World} {l : List Oper} (hnd : (l.all fun o => match o.op with | .defer _ => false | _ => true) = true) (C : World → Prop) (E : List Nat) (z : Nat) (hm : P.follows .mixedOrders = true) (hB : M2.Region.mixB .any l.toArray E z = true) (hz : z ≤ l.length) (hC : C w.drew)
    (h : M2.wpMixL P l.toArray C E (fun a' w' => M2.wpMixL P l.toArray (fun _ => True) E (fun a' w' => Q .normal a' w') z (l.drop z) a' w') 0 (l.take z) a w.drew) : (Code.region id l.toArray true).wpIn (Fence.wide.inRound r) n P Q a w := by
  refine wpIn_region_any hm (any_lift hQ ?_ _ _ _ _ (M2.any_of_mixZ C E z hm hB hz hC h)); intro i o hi c hc; have := List.all_eq_true.1 hnd o (List.mem_of_getElem? (by simpa using hi)); rw [hc] at this; cases this
end
/-! ### A function that leaves with a mark -/
section
variable {P : Program}
theorem calls_of_marks {f : FuncId} {fn : Func} {c : Code} {args : Array Value} {w : World} {R : Ending → World → Prop}
    (hf : P.funcs[f]? = some fn) (hb : fn.body = some c)
    (h : c.wp P (bodyPostM Fence.wide 1 P fn R) { tmps := args ++ Array.replicate (fn.ntmps - args.size) undef, defers := [] } w) : Calls P f args w R :=
  (callsIn_wide (n := 1)).1 (callsIn_of_wp_marks hf hb trivial (wpIn_wide.2 h))
theorem chg_putObj (W : World) (l : Nat) (o : Obj) {F : List Nat} (hl : l ∈ F) : Chg F W (W.putObj l o) :=
 ⟨rfl, rfl, rfl, by simp, fun k _ hk => World.putObj_heap_other (fun e => hk (e ▸ hl))⟩
theorem ret_mark {fn : Func} {R : Ending → World → Prop} {a : Act} {w : World} {D : Nat} {v : Value} (hd : a.defers = [{ target := .collected D, args := #[] }]) (hD : w.heap[D]? = some (.deferred (some [])))
    (hr : (results fn a.tmps).run P (w.putObj D (.deferred none)) = .ok v (w.putObj D (.deferred none))) (hR : R (.returned v) (w.putObj D (.deferred none))) : bodyPostM Fence.wide 1 P fn R .ret a w := by
  show LeavesInM Fence.wide 1 P fn a.tmps R a.defers .returning w
  rw [hd]; exact ⟨by simp, .inl ⟨D, _, rfl, run_takeDeferred hD, v, hr, hR⟩⟩
/-! ### The statement -/
theorem wp_rangeFunc_st {g : Operand} {ps : Array Tmp} {assign body : Code} {Q : Exit → Act → World → Prop} {a : Act} {w : World} {gf : Nat} {la lb : Array Value}
    (hg : a.eval g = .func (.func gf) la lb) (eg : ∀ args w, (callFunc gf args).run P w = .ok (.enter gf args) w)
    (p : Nat) (hp : p < w.heap.size) (N : Nat) (vals : Nat → Array Value) (hps : ∀ k, (vals k).size = ps.size) (cells : Nat → List Value) (c0 cN : List Value) (t : TypeId)
    (I : Nat → World → Prop)
    (hI : ∀ k A B, I k A → Chg [p, w.heap.size, w.heap.size + 1] A B → I k B)
    (h0 : I 0 w) (hc0 : Blk w p c0 t)
    (hiter : ∀ (J : Nat → World → Prop) (l : Nat) (W : World), (∀ k A B, J k A → Chg [p] A B → J k B) → (∀ k A, J k A → I k A) →
      (∀ k W1, k < N → J k W1 → Blk W1 p (cells k) t → YieldAt Fence.wide 0 P l (vals k) W1 fun e W' => e = .returned (.bool true) ∧ J (k + 1) W' ∧ Blk W' p (cells k) t) →
      J 0 W → Blk W p c0 t → Calls P gf (la ++ #[.func (.yield l) #[] #[]] ++ lb) W (fun e W' => (∃ v, e = .returned v) ∧ J N W' ∧ Blk W' p cN t))
    (hround : ∀ (l k : Nat) (W : World), k < N → I k W → w.heap.size + 2 ≤ W.heap.size → assign.wpIn (Fence.wide.inRound l) 0 P (Exit.then (fun a1 w1 => (∃ G, Chg G W w1 ∧ p ∉ G ∧ w.heap.size ∉ G ∧ w.heap.size + 1 ∉ G) ∧
        ∀ w2, Chg [w.heap.size + 1] w1 w2 → Blk w2 p (cells k) t → w.heap.size + 2 ≤ w2.heap.size → body.wpIn (Fence.wide.inRound l) 0 P (fun e _ W' => e = .normal ∧ I (k + 1) W' ∧ ∃ G, Chg G w2 W' ∧ p ∉ G ∧ w.heap.size ∉ G ∧ w.heap.size + 1 ∉ G) a1 w2) (fun _ _ _ => False))
      { tmps := (ps.zip (vals k)).foldl (fun t (p, v) => t.setIfInBounds p v) a.tmps, defers := [] } W)
    (hdone : ∀ (W : World), I N W → Blk W p cN t → W.heap[w.heap.size]? = some (.deferred (some [])) → Q .normal { a with defers := { target := .collected w.heap.size, args := #[] } :: a.defers } W) :
    (Code.rangeFunc g ps assign body).wp P Q a w := by
  refine wpIn_wide.1 (wpIn_rangeFunc (n := 1) ?_); intro fn hfn; obtain ⟨rec, hrec⟩ : ∃ rec : LoopState → Option Code → Loop, rec = fun st pe => { state := st, pending := pe, fn, tmps := a.tmps, params := ps, assign, body, defers := w.heap.size } := ⟨_, rfl⟩; obtain ⟨W1, hW1⟩ : ∃ W1, (w.alloc (.deferred (some []))).alloc (.loop (rec .ready none)) = W1 := ⟨_, rfl⟩; have hL1 : W1.heap[w.heap.size + 1]? = some (.loop (rec .ready none)) := by
   rw [← hW1]; have := World.alloc_heap_new (w.alloc (.deferred (some []))) (.loop (rec .ready none)); rwa [World.size_alloc] at this
  have hK1 : W1.heap[w.heap.size]? = some (.deferred (some [])) := by
   rw [← hW1]; exact (Below.heap_alloc _ _ _ (by simp)).trans (World.alloc_heap_new w _)
  have hch1 : ∀ F, Chg F w W1 := fun F => by rw [← hW1]; exact Chg.alloc (Chg.alloc (Chg.refl _ _) _) _
  have hI1 : I 0 W1 := hI 0 _ _ h0 (hch1 _); have hs1 : w.heap.size + 2 ≤ W1.heap.size := by rw [← hW1]; simp
  have hB1 : Blk W1 p c0 t := Blk.chg hc0 (hch1 []) (by simp)
  refine ⟨w.heap.size + 1, [{ target := .collected w.heap.size, args := #[] }], W1, { target := .fn (.func gf) lb, args := la ++ #[.func (.yield (w.heap.size + 1)) #[] #[]] }, W1, gf,
    la ++ #[.func (.yield (w.heap.size + 1)) #[] #[]] ++ lb, W1, ?_, ?_, ?_, ?_, fun _ => Nat.le_refl _, ?_⟩
  · rw [← hW1, hrec]; exact run_enterLoop_outer _ _ _ _ _
  · simp only [resolve, hg]; simp [go_sem]
  · intro f' hf'; trivial
  · simp [invoke, go_sem, eg]
  · refine (callsIn_wide (n := 0)).2 ((hiter (fun k W => I k W ∧ W.heap[w.heap.size + 1]? = some (.loop (rec .ready none)) ∧ W.heap[w.heap.size]? = some (.deferred (some [])) ∧ w.heap.size + 2 ≤ W.heap.size) (w.heap.size + 1) W1 ?_ (fun _ _ h => h.1) ?_ ⟨hI1, hL1, hK1, hs1⟩ hB1).mono ?_)
    · rintro k A B ⟨hi, hl, hk, hs⟩ hc; exact ⟨hI k A B hi (hc.mono (fun i hi => .inl (by simp at hi; simp [hi]))), (hc.block _ (by omega) (by simp; omega)).trans hl, (hc.block _ (by omega) (by simp; omega)).trans hk, Nat.le_trans hs hc.size⟩
    · rintro k W hkN ⟨hi, hl, hk, hs⟩ hb; have hy := run_yield (P := P) (args := vals k) hl (by rw [hrec]; exact hps k); rw [hrec] at hy; refine ⟨fn, _, assign, body, hy, roundIn_of_wpIn hfn ?_⟩; refine wpIn_mono (hround (w.heap.size + 1) k W hkN hi hs) ?_; intro e a1 w1 hq; cases e with
      | normal =>
       obtain ⟨⟨G, hG, hGp, hGd, hGl⟩, hbody⟩ := hq; have hl1 : w1.heap[w.heap.size + 1]? = some (.loop (rec .ready none)) := (hG.block _ (by omega) hGl).trans hl; have hk1 : w1.heap[w.heap.size]? = some (.deferred (some [])) := (hG.block _ (by omega) hGd).trans hk; have hs1' : w.heap.size + 2 ≤ w1.heap.size := Nat.le_trans hs hG.size; have hb1 : Blk w1 p (cells k) t := Blk.chg hb hG hGp; refine ⟨_, run_beginRound hl1 (by rw [hrec]), ?_⟩; have hc2 := chg_putObj w1 (w.heap.size + 1) (.loop { rec .ready none with state := .busy }) (F := [w.heap.size + 1]) (by simp); have hl2 : (w1.putObj (w.heap.size + 1) (.loop { rec .ready none with state := .busy })).heap[w.heap.size + 1]? = some (.loop { rec .ready none with state := .busy }) := World.putObj_heap_same (by omega); have hk2 : (w1.putObj (w.heap.size + 1) (.loop { rec .ready none with state := .busy })).heap[w.heap.size]? = some (.deferred (some [])) := (World.putObj_heap_other (by omega)).trans hk1; have hb2 : Blk (w1.putObj (w.heap.size + 1) (.loop { rec .ready none with state := .busy })) p (cells k) t := Blk.chg hb1 hc2 (by simp; omega); have hs2 : w.heap.size + 2 ≤ (w1.putObj (w.heap.size + 1) (.loop { rec .ready none with state := .busy })).heap.size := Nat.le_trans hs1' hc2.size; generalize w1.putObj (w.heap.size + 1) (.loop { rec .ready none with state := .busy }) = w2 at *; refine wpIn_mono (hbody w2 hc2 hb2 hs2) ?_; rintro e a3 W3 ⟨rfl, hi3, G3, hG3, hp3, hd3, hl3⟩; have hl4 : W3.heap[w.heap.size + 1]? = some (.loop { rec .ready none with state := .busy }) := (hG3.block _ (by omega) hl3).trans hl2; have hk4 : W3.heap[w.heap.size]? = some (.deferred (some [])) := (hG3.block _ (by omega) hd3).trans hk2; have hb4 : Blk W3 p (cells k) t := Blk.chg hb2 hG3 hp3; have hs4 : w.heap.size + 2 ≤ W3.heap.size := Nat.le_trans hs2 hG3.size; have hend := run_endRound (P := P) none hl4; refine ⟨_, _, hend, rfl, ⟨hI _ _ _ hi3 (chg_putObj _ _ _ (by simp)), ?_, (World.putObj_heap_other (by omega)).trans hk4, by simpa using hs4⟩, Blk.chg hb4 (chg_putObj _ _ _ (F := [w.heap.size + 1]) (by simp)) (by simp; omega)⟩; rw [World.putObj_heap_same (by omega), hrec]; rfl
      | ret => exact hq.elim
      | exit id => exact hq.elim
      | goto t => exact hq.elim
      | panic ch => exact hq.elim
      | outgrown => exact hq.elim
    · rintro e W2 ⟨⟨v, rfl⟩, ⟨hi, hl, hk, hs⟩, hb⟩; refine ⟨none, _, by have := run_endLoop (P := P) hl (by rw [hrec]; simp); rw [hrec] at this; exact this, ?_⟩; exact hdone _ (hI _ _ _ hi (chg_putObj _ _ _ (by simp))) (Blk.chg hb (chg_putObj _ _ _ (F := [w.heap.size + 1]) (by simp)) (by simp; omega)) ((World.putObj_heap_other (by omega)).trans hk)
end
end
section
open Go.RowKit
attribute [local go_sem] odr cdr
structure RunC (L : List Bool) (xs : List Sm) (er : Nat) : Prop where
 rd : ReadC L xs
 fin : er = 0 ∧ (bitsC En.zero xs).length = L.length ∨ er = 61 ∧ (bitsC En.zero xs).length < L.length ∧ getC L (bitsC En.zero xs).length (knowC En.zero xs) = ((0, 0), 0, En.zero, 61)
theorem ReadC.le {L : List Bool} {xs : List Sm} (h : ReadC L xs) : (bitsC En.zero xs).length ≤ L.length := by
 obtain ⟨r, hr⟩ := h.bits; rw [hr, List.length_append]; omega
theorem RunC.at_ {L : List Bool} {xs : List Sm} {er : Nat} (h : RunC L xs er) (hl : L.length ≤ 700000) {k : Nat} (hk : k < xs.length) :
    getC L (bitsC En.zero (xs.take k)).length (knowC En.zero (xs.take k)) = ((xs[k].t, xs[k].v), (((bitsC En.zero (xs.take (k + 1))).length : Nat) : Int), knowC En.zero (xs.take (k + 1)), 0) := by
  have hx := h.rd.wf; have hln := h.rd.len; have h1 := knowZ (xs := xs.take k) (fun s hs => hx s (List.mem_of_mem_take hs)) (by rw [List.length_take]; omega); have h2 := h.rd.good; rw [← List.take_append_drop (k + 1) xs, goodC_app, takeC_get hk, goodC_snoc] at h2; have h3 := hx xs[k] (List.getElem_mem hk); obtain ⟨r, hr⟩ := h.rd.bits; have h4 := getC_laid (bitsC En.zero (xs.take k)) (bitsC (knowC En.zero (xs.take (k + 1))) (xs.drop (k + 1)) ++ r) h1.1 h1.2.1 h3.1 h3.2 h2.1.2; have e1 : L = bitsC En.zero (xs.take k) ++ ((laid (knowC En.zero (xs.take k)) xs[k].t xs[k].v).1 ++ (bitsC (knowC En.zero (xs.take (k + 1))) (xs.drop (k + 1)) ++ r)) := by
   rw [hr]
   conv => lhs; rw [← List.take_append_drop (k + 1) xs]
   rw [bitsC_app, takeC_get hk, bitsC_snoc]; simp only [List.append_assoc]
  rw [e1, h4, takeC_get hk, bitsC_snoc, knowC_snoc, List.length_append]
theorem RunC.front {L : List Bool} {xs : List Sm} {er : Nat} (h : RunC L xs er) (hl : L.length ≤ 700000) (k : Nat) : soundE (knowC En.zero (xs.take k)) = true ∧ (knowC En.zero (xs.take k)).wf ∧ (bitsC En.zero (xs.take k)).length ≤ L.length := by
 have h1 := knowZ (xs := xs.take k) (fun s hs => h.rd.wf s (List.mem_of_mem_take hs)) (by rw [List.length_take]; have := h.rd.len; omega); refine ⟨h1.1, h1.2.1, ?_⟩; have h2 := h.rd.le; rw [← List.take_append_drop k xs, bitsC_app, List.length_append] at h2; omega
theorem RunC.lt {L : List Bool} {xs : List Sm} {er : Nat} (h : RunC L xs er) (hl : L.length ≤ 700000) {k : Nat} (hk : k < xs.length) : (bitsC En.zero (xs.take k)).length < (bitsC En.zero (xs.take (k + 1))).length ∧ (bitsC En.zero (xs.take (k + 1))).length ≤ L.length := by
 have h1 := h.front hl k; have h2 := h.at_ hl hk; have h3 := getC_ok h2 h1.2.1; exact ⟨by have := h3.2.1; omega, (h.front hl (k + 1)).2.2⟩
abbrev wkC (a : Option Addr) (n c : Nat) (N at_ : Int) (e : En) (f : Nat) : List Value := [.slice a n c, .int .i64 N, .int .i64 at_, .int .i64 e.n, .int .i64 e.last, .int .i64 e.delta, .bool e.val.has, .int .u64 (e.val.prev : Nat), .int .u8 (e.val.lead : Nat), .int .u8 (e.val.width : Nat), .int .u16 (f : Nat)]
def smAt (xs : List Sm) (k : Nat) : Value := smV (xs.getD k ⟨0, 0⟩).t (xs.getD k ⟨0, 0⟩).v
theorem smAt_eq {xs : List Sm} {k : Nat} (h : k < xs.length) : smAt xs k = smV xs[k].t xs[k].v := by
 unfold smAt; rw [List.getD_eq_getElem?_getD, List.getElem?_eq_getElem h]; rfl
section
variable {A W : World} {p : Nat} {F : List Nat} {x0 x1 x2 x3 x4 x5 x6 x7 x8 x9 x10 v2 v3 v4 v5 v6 v7 v8 v9 v10 : Value} {lit : Obj} {e : World} {t : TypeId}
theorem wk_sets (h : Blk W p [x0, x1, x2, x3, x4, x5, x6, x7, x8, x9, x10] t) : Blk (over ((((((((((W.setCell ⟨p, 2, none⟩ v2).setCell ⟨p, 3, none⟩ v3).setCell ⟨p, 4, none⟩ v4).setCell ⟨p, 5, none⟩ v5).setCell ⟨p, 6, none⟩ v6).setCell ⟨p, 7, none⟩ v7).setCell ⟨p, 8, none⟩ v8).setCell ⟨p, 9, none⟩ v9).setCell ⟨p, 10, none⟩ v10).alloc lit) e) p [x0, x1, v2, v3, v4, v5, v6, v7, v8, v9, v10] t :=
 Blk.on (Blk.alloc (((((((((h.set 2 v2).set 3 v3).set 4 v4).set 5 v5).set 6 v6).set 7 v7).set 8 v8).set 9 v9).set 10 v10) _) _
theorem wk_chg (h : Chg F A W) (hp : p ∈ F) : Chg F A (((((((((W.setCell ⟨p, 2, none⟩ v2).setCell ⟨p, 3, none⟩ v3).setCell ⟨p, 4, none⟩ v4).setCell ⟨p, 5, none⟩ v5).setCell ⟨p, 6, none⟩ v6).setCell ⟨p, 7, none⟩ v7).setCell ⟨p, 8, none⟩ v8).setCell ⟨p, 9, none⟩ v9).setCell ⟨p, 10, none⟩ v10) :=
 Chg.setCell (Chg.setCell (Chg.setCell (Chg.setCell (Chg.setCell (Chg.setCell (Chg.setCell (Chg.setCell (Chg.setCell h (.inl hp) _) (.inl hp) _) (.inl hp) _) (.inl hp) _) (.inl hp) _) (.inl hp) _) (.inl hp) _) (.inl hp) _) (.inl hp) _
end
theorem each_res (tmps : Array Value) (w : World) : (results Tryz.f75 tmps).run Tryz.prog w = .ok (.tuple #[]) w := by
 simp [results, show Tryz.f75.results = #[] from rfl, go_sem]
theorem each_any (L : List Bool) (hl : L.length ≤ 700000) (a : Option Addr) (c : Nat) (xs : List Sm) (er : Nat) (hr : RunC L xs er) (p l : Nat) (J : Nat → World → Prop) (W : World)
    (hJ : ∀ k A B, J k A → Chg [p] A B → J k B) (hT : ∀ k A, J k A → TabW A) (hS : ∀ k A, J k A → SlB A a c (pack L))
    (hy : ∀ k W1, k < xs.length → J k W1 → Blk W1 p (wkC a (pack L).length c L.length (bitsC En.zero (xs.take (k + 1))).length (knowC En.zero (xs.take (k + 1))) 0) 160 → YieldAt Fence.wide 0 Tryz.prog l #[smAt xs k] W1 fun e W' => e = .returned (.bool true) ∧ J (k + 1) W' ∧ Blk W' p (wkC a (pack L).length c L.length (bitsC En.zero (xs.take (k + 1))).length (knowC En.zero (xs.take (k + 1))) 0) 160)
    (h0 : J 0 W) (hb : Blk W p (wkC a (pack L).length c L.length 0 En.zero 0) 160) :
    Calls Tryz.prog 75 #[.pointer (some ⟨p, 0, none⟩), .func (.yield l) #[] #[]] W (fun e W' => (∃ v, e = .returned v) ∧ J xs.length W' ∧ Blk W' p (if er = 0 then wkC a (pack L).length c L.length L.length (knowC En.zero xs) 0 else wkC a (pack L).length c L.length 0 En.zero er) 160) := by
  have HS := hid (fun W hW => sound_any (pack L) pack_lt (pkl (by omega)) L.length (by omega) a c W hW); rw [spk] at HS; have HJ := hid hJ; have HT := hid hT; have HSl := hid hS; have HY := hid hy; have HB := hid hb; have H0 := hid h0; have HR := hid hr; clear hJ hT hS hy h0 hb hr; have r0 := HB.out.cell 0 rfl; have r1 := HB.out.cell 1 rfl; have l0 := HB.out.lt
  go_enter Tryz.func75, Tryz.ntmps75; go_wp2_with (go_at_call 90; (with_reducible refine (HS.out _ (HSl.out _ _ H0.out)).mono ?_); rintro _ _ ⟨⟨e1, rfl⟩, rfl⟩)
  go_loopw [] (fun wr => ∃ (k : Nat), k ≤ xs.length ∧ J k wr ∧ Hid (Blk wr p (wkC a (pack L).length c L.length (bitsC En.zero (xs.take k)).length (knowC En.zero (xs.take k)) 0) 160)) (fun wr => L.length - (intOf ((wr.cell? ⟨p, 2, none⟩).getD (.int .i64 0))).toNat)
  case atStart => exact ⟨0, Nat.zero_le _, HJ.out _ _ _ H0.out (by exact chA), hid (by show Blk _ p (wkC a (pack L).length c L.length 0 En.zero 0) _; exact (by exact bxA HB.out))⟩
  case round =>
   obtain ⟨k, hk, hj, hbk⟩ := hrel; clear r0 r1 l0 H0 HB; have hfr := HR.out.front hl k; by_cases hlt : k < xs.length
   · have hat := HR.out.at_ hl hlt; have hll := HR.out.lt hl hlt; obtain ⟨t', ht'⟩ : ∃ t', knowC En.zero (xs.take (k + 1)) = t' := ⟨_, rfl⟩; obtain ⟨n', hn'⟩ : ∃ n', (bitsC En.zero (xs.take (k + 1))).length = n' := ⟨_, rfl⟩; have HYk := hid (HY.out k); have hsm := smAt_eq hlt; rw [ht', hn'] at HYk; rw [ht', hn'] at hat; rw [hn'] at hll; have HT' := hid ht'; have HN' := hid hn'; generalize knowC En.zero (xs.take k) = t at *; generalize (bitsC En.zero (xs.take k)).length = nk at *; have HG := hid (fun W h1 h2 => cget_yes L hl a c (nk : Nat) (by unfold i64ok; omega) t hfr.2.1 hfr.1 W h1 h2); rw [hat] at HG; have HG' : Hid (∀ W, TabW W → SlB W a c (pack L) → Calls Tryz.prog 101 #[bv a (pack L).length c L.length, .int .i64 (nk : Nat), t.v] W (Ret W (.tuple #[smV xs[k].t xs[k].v, .int .i64 (n' : Nat), t'.v, .int .u16 0]))) := HG; rw [hsm] at HYk; generalize xs[k] = x at *; clear HG hat ht' hn' hsm hfr; have HM : Hid (wr.cell? ⟨p, 2, none⟩ = some (.int .i64 (nk : Nat))) := hid (hbk.out.cell 2 rfl); have r0 := hbk.out.cell 0 rfl; have g0 := hbk.out.free 0; have r1 := hbk.out.cell 1 rfl; have g1 := hbk.out.free 1; have r2 := hbk.out.cell 2 rfl; have g2 := hbk.out.free 2; have r3 := hbk.out.cell 3 rfl; have g3 := hbk.out.free 3; have r4 := hbk.out.cell 4 rfl; have g4 := hbk.out.free 4; have r5 := hbk.out.cell 5 rfl; have g5 := hbk.out.free 5; have r6 := hbk.out.cell 6 rfl; have g6 := hbk.out.free 6; have r7 := hbk.out.cell 7 rfl; have g7 := hbk.out.free 7; have r8 := hbk.out.cell 8 rfl; have g8 := hbk.out.free 8; have r9 := hbk.out.cell 9 rfl; have g9 := hbk.out.free 9; have r10 := hbk.out.cell 10 rfl; have g10 := hbk.out.free 10; have l0 := hbk.out.lt; go_wp2_with fail
     refine wro (by kernel_rfl) (by kernel_rfl) ?_; repeat (go_big_quiet_step ((fail)))
     refine wpQuiet_nil ?_; intro _ hw'; obtain ⟨nq, rfl⟩ := hw'; refine gen_w ?_; intro W3 hW3; have B3 : Hid (Blk W3 p (wkC a (pack L).length c L.length nk t 0) 160) := hid (by rw [hW3]; exact (by exact bxA hbk.out)); have J3 : Hid (J k W3) := hid (HJ.out _ _ _ hj (by rw [hW3]; exact (by exact chA))); clear hW3 hj r0 r1 r2 r3 r4 r5 r6 r7 r8 r9 r10 g0 g1 g2 g3 g4 g5 g6 g7 g8 g9 g10 l0; have r0 := B3.out.cell 0 rfl; have g0 := B3.out.free 0; have r1 := B3.out.cell 1 rfl; have g1 := B3.out.free 1; have r2 := B3.out.cell 2 rfl; have g2 := B3.out.free 2; have r3 := B3.out.cell 3 rfl; have g3 := B3.out.free 3; have r4 := B3.out.cell 4 rfl; have g4 := B3.out.free 4; have r5 := B3.out.cell 5 rfl; have g5 := B3.out.free 5; have r6 := B3.out.cell 6 rfl; have g6 := B3.out.free 6; have r7 := B3.out.cell 7 rfl; have g7 := B3.out.free 7; have r8 := B3.out.cell 8 rfl; have g8 := B3.out.free 8; have r9 := B3.out.cell 9 rfl; have g9 := B3.out.free 9; have r10 := B3.out.cell 10 rfl; have g10 := B3.out.free 10; have l0 := B3.out.lt; go_wp2_with fail
     obtain ⟨F, hF⟩ : ∃ F, F = [p, W3.heap.size] := ⟨_, rfl⟩; have i1 : p ∈ F := by rw [hF]; simp
     have i2 : W3.heap.size ∈ F := by rw [hF]; simp
     have n1 : ¬ p = W3.heap.size := by omega
     have n2 : ¬ W3.heap.size = p := by omega
     clear hF; refine M2.wrm [15, 21, 24, 27, 30] 15 (by kernel_rfl) (by kernel_rfl) (by decide) ?_; simp only [M2.td]; with_reducible refine M2.mlq 15 (by kernel_rfl) ?_
     simp only [M2.td]; repeat (go_big_quiet_step (fail))
     with_reducible refine wpQuiet_nil ?_
     with_reducible refine M2.mln ?_
     with_reducible refine M2.mixL_eff (by decide) ?_
     go_wp2_with ((go_at_call 101; (with_reducible refine (HG'.out _ (by exact tabA (HT.out _ _ J3.out)) (by exact slA (HSl.out _ _ J3.out))).mono ?_); rintro _ _ ⟨⟨e2, rfl⟩, rfl⟩))
     refine M2.MixQ.mk trivial ?_; with_reducible refine M2.mlq 5 (by kernel_rfl) ?_
     simp only [M2.td]; repeat (go_big_quiet_step (fail))
     with_reducible refine wpQuiet_nil ?_
     with_reducible refine M2.mixL_eff (by decide) ?_
     go_wp2_with (fail)
     refine M2.MixQ.mk trivial ?_; with_reducible refine M2.mlq 2 (by kernel_rfl) ?_
     simp only [M2.td]; repeat (go_big_quiet_step (fail))
     with_reducible refine wpQuiet_nil ?_
     with_reducible refine M2.mixL_eff (by decide) ?_
     go_wp2_with (fail)
     refine M2.MixQ.mk trivial ?_; with_reducible refine M2.mlq 2 (by kernel_rfl) ?_
     simp only [M2.td]; repeat (go_big_quiet_step (fail))
     with_reducible refine wpQuiet_nil ?_
     with_reducible refine M2.mixL_eff (by decide) ?_
     go_wp2_with (fail)
     refine M2.MixQ.mk trivial ?_; with_reducible refine M2.mlq 2 (by kernel_rfl) ?_
     simp only [M2.td]; repeat (go_big_quiet_step (fail))
     with_reducible refine wpQuiet_nil ?_
     with_reducible refine M2.mixL_eff (by decide) ?_
     go_wp2_with (fail)
     refine M2.MixQ.mk trivial ?_; with_reducible refine M2.mln ?_
     refine gen_w ?_; intro W5 hW5; have B5 : Hid (Blk W5 p (wkC a (pack L).length c L.length n' t' 0) 160) := hid (by rw [hW5]; exact wk_sets B3.out); have J5 : Hid (J k W5) := hid (HJ.out _ _ _ J3.out (by rw [hW5]; exact Chg.on (Chg.alloc (wk_chg (Chg.refl _ _) (by simp)) _) _)); have S5 : Hid (Blk W5 W3.heap.size [.int .i64 x.t, .int .u64 (x.v : Nat)] 38) := hid (by rw [hW5]; exact Blk.on (Blk.new' (by simp)) _); clear hW5 r0 r1 r2 r3 r4 r5 r6 r7 r8 r9 r10 g0 g1 g2 g3 g4 g5 g6 g7 g8 g9 g10 l0; have r10 := B5.out.cell 10 rfl; have s0 := S5.out.cell 0 rfl; have s1 := S5.out.cell 1 rfl; obtain ⟨fn, tmps, assign, body, hy, hR⟩ := HYk.out W5 hlt J5.out B5.out; simp only [Exit.then]; refine (‹∀ (a : Act) (w : World), Code.wp _ _ _ a w → _›) _ _ ?_; rw [← wpIn_wide (n := 1)]
     gi_wp2
     refine hR.mono ?_; rintro e W6 ⟨rfl, hj6, hb6⟩; have HJ6 := hid hj6; have HB6 := hid hb6; clear hj6 hb6 hR hy
     gi_wp2
     go_roundw
     case rel => exact ⟨k + 1, by omega, HJ6.out, by rw [HT'.out, HN'.out]; exact HB6⟩
     case measure =>
      have q1 := HB6.out.cell 2 rfl; rw [q1, HM.out]; simp [intOf]; omega
   · obtain rfl : k = xs.length := by omega
     rw [List.take_length] at *; have hfin := HR.out.fin; rcases hfin with ⟨rfl, hfin⟩ | ⟨rfl, hlt2, hfin⟩
     · rw [hfin] at hbk; have r0 := hbk.out.cell 0 rfl; have g0 := hbk.out.free 0; have r1 := hbk.out.cell 1 rfl; have g1 := hbk.out.free 1; have r2 := hbk.out.cell 2 rfl; have g2 := hbk.out.free 2; have r3 := hbk.out.cell 3 rfl; have g3 := hbk.out.free 3; have r4 := hbk.out.cell 4 rfl; have g4 := hbk.out.free 4; have r5 := hbk.out.cell 5 rfl; have g5 := hbk.out.free 5; have r6 := hbk.out.cell 6 rfl; have g6 := hbk.out.free 6; have r7 := hbk.out.cell 7 rfl; have g7 := hbk.out.free 7; have r8 := hbk.out.cell 8 rfl; have g8 := hbk.out.free 8; have r9 := hbk.out.cell 9 rfl; have g9 := hbk.out.free 9; have r10 := hbk.out.cell 10 rfl; have g10 := hbk.out.free 10; have l0 := hbk.out.lt; go_wp2_with fail
       refine wro (by kernel_rfl) (by kernel_rfl) ?_; repeat (go_big_quiet_step ((fail)))
       refine wpQuiet_nil ?_; intro _ hw'; obtain ⟨nq, rfl⟩ := hw'; go_wp2_with fail
       refine ⟨rfl, _, each_res _ _, ⟨_, rfl⟩, HJ.out _ _ _ hj (by exact chA), (by exact bxA hbk.out)⟩
     · have HG := hid (fun W h1 h2 => cget_yes L hl a c ((bitsC En.zero xs).length : Nat) (by unfold i64ok; omega) (knowC En.zero xs) hfr.2.1 hfr.1 W h1 h2); rw [hfin] at HG; generalize knowC En.zero xs = t at *; generalize (bitsC En.zero xs).length = nk at *; have HG' : Hid (∀ W, TabW W → SlB W a c (pack L) → Calls Tryz.prog 101 #[bv a (pack L).length c L.length, .int .i64 (nk : Nat), t.v] W (Ret W (.tuple #[.agg #[.int .i64 0, .int .u64 0], .int .i64 0, .agg #[.int .i64 0, .int .i64 0, .int .i64 0, .bool false, .int .u64 0, .int .u8 0, .int .u8 0], .int .u16 61]))) := HG; clear HG hfin hfr; have r0 := hbk.out.cell 0 rfl; have g0 := hbk.out.free 0; have r1 := hbk.out.cell 1 rfl; have g1 := hbk.out.free 1; have r2 := hbk.out.cell 2 rfl; have g2 := hbk.out.free 2; have r3 := hbk.out.cell 3 rfl; have g3 := hbk.out.free 3; have r4 := hbk.out.cell 4 rfl; have g4 := hbk.out.free 4; have r5 := hbk.out.cell 5 rfl; have g5 := hbk.out.free 5; have r6 := hbk.out.cell 6 rfl; have g6 := hbk.out.free 6; have r7 := hbk.out.cell 7 rfl; have g7 := hbk.out.free 7; have r8 := hbk.out.cell 8 rfl; have g8 := hbk.out.free 8; have r9 := hbk.out.cell 9 rfl; have g9 := hbk.out.free 9; have r10 := hbk.out.cell 10 rfl; have g10 := hbk.out.free 10; have l0 := hbk.out.lt; go_wp2_with fail
       refine wro (by kernel_rfl) (by kernel_rfl) ?_; repeat (go_big_quiet_step ((fail)))
       refine wpQuiet_nil ?_; intro _ hw'; obtain ⟨nq, rfl⟩ := hw'; refine gen_w ?_; intro W3 hW3; have B3 : Hid (Blk W3 p (wkC a (pack L).length c L.length nk t 0) 160) := hid (by rw [hW3]; exact (by exact bxA hbk.out)); have J3 : Hid (J xs.length W3) := hid (HJ.out _ _ _ hj (by rw [hW3]; exact (by exact chA))); clear hW3 hj r0 r1 r2 r3 r4 r5 r6 r7 r8 r9 r10 g0 g1 g2 g3 g4 g5 g6 g7 g8 g9 g10 l0; have r0 := B3.out.cell 0 rfl; have g0 := B3.out.free 0; have r1 := B3.out.cell 1 rfl; have g1 := B3.out.free 1; have r2 := B3.out.cell 2 rfl; have g2 := B3.out.free 2; have r3 := B3.out.cell 3 rfl; have g3 := B3.out.free 3; have r4 := B3.out.cell 4 rfl; have g4 := B3.out.free 4; have r5 := B3.out.cell 5 rfl; have g5 := B3.out.free 5; have r6 := B3.out.cell 6 rfl; have g6 := B3.out.free 6; have r7 := B3.out.cell 7 rfl; have g7 := B3.out.free 7; have r8 := B3.out.cell 8 rfl; have g8 := B3.out.free 8; have r9 := B3.out.cell 9 rfl; have g9 := B3.out.free 9; have r10 := B3.out.cell 10 rfl; have g10 := B3.out.free 10; have l0 := B3.out.lt; have n1 : ¬ p = W3.heap.size := by omega
       have n2 : ¬ W3.heap.size = p := by omega
       go_wp2_with fail
       refine M2.wrm [15, 21, 24, 27, 30] 15 (by kernel_rfl) (by kernel_rfl) (by decide) ?_; simp only [M2.td]; with_reducible refine M2.mlq 15 (by kernel_rfl) ?_
       simp only [M2.td]; repeat (go_big_quiet_step (fail))
       with_reducible refine wpQuiet_nil ?_
       with_reducible refine M2.mln ?_
       with_reducible refine M2.mixL_eff (by decide) ?_
       go_wp2_with ((go_at_call 101; (with_reducible refine (HG'.out _ (by exact tabA (HT.out _ _ J3.out)) (by exact slA (HSl.out _ _ J3.out))).mono ?_); rintro _ _ ⟨⟨e2, rfl⟩, rfl⟩))
       refine M2.MixQ.mk trivial ?_; with_reducible refine M2.mlq 5 (by kernel_rfl) ?_
       simp only [M2.td]; repeat (go_big_quiet_step (fail))
       with_reducible refine wpQuiet_nil ?_
       with_reducible refine M2.mixL_eff (by decide) ?_
       go_wp2_with (fail)
       refine M2.MixQ.mk trivial ?_; with_reducible refine M2.mlq 2 (by kernel_rfl) ?_
       simp only [M2.td]; repeat (go_big_quiet_step (fail))
       with_reducible refine wpQuiet_nil ?_
       with_reducible refine M2.mixL_eff (by decide) ?_
       go_wp2_with (fail)
       refine M2.MixQ.mk trivial ?_; with_reducible refine M2.mlq 2 (by kernel_rfl) ?_
       simp only [M2.td]; repeat (go_big_quiet_step (fail))
       with_reducible refine wpQuiet_nil ?_
       with_reducible refine M2.mixL_eff (by decide) ?_
       go_wp2_with (fail)
       refine M2.MixQ.mk trivial ?_; with_reducible refine M2.mlq 2 (by kernel_rfl) ?_
       simp only [M2.td]; repeat (go_big_quiet_step (fail))
       with_reducible refine wpQuiet_nil ?_
       with_reducible refine M2.mixL_eff (by decide) ?_
       go_wp2_with (fail)
       refine M2.MixQ.mk trivial ?_; with_reducible refine M2.mln ?_
       refine gen_w ?_; intro W5 hW5; have B5 : Hid (Blk W5 p (wkC a (pack L).length c L.length 0 En.zero 61) 160) := hid (by rw [hW5]; exact wk_sets B3.out); have J5 : Hid (J xs.length W5) := hid (HJ.out _ _ _ J3.out (by rw [hW5]; exact Chg.on (Chg.alloc (wk_chg (Chg.refl _ _) (by simp)) _) _)); clear hW5 r0 r1 r2 r3 r4 r5 r6 r7 r8 r9 r10 g0 g1 g2 g3 g4 g5 g6 g7 g8 g9 g10 l0; have r10 := B5.out.cell 10 rfl; go_wp2_with fail
       refine ⟨rfl, _, each_res _ _, ⟨_, rfl⟩, HJ.out _ _ _ J5.out (by exact chA), (by exact bxA B5.out)⟩
end
end Go.Proofs.YtnffcckhdedhpaaGreatDoor
