import Derived.Test.YtnffcckhdedhpaaGreatDoorGF
import Derived.Test.YtnffcckhdedhpaaGreatDoorGG
import Derived.Test.YtnffcckhdedhpaaGreatDoorHK
namespace Go.Proofs.YtnffcckhdedhpaaGreatDoor
set_option linter.unusedVariables false
set_option linter.unusedSimpArgs false
set_option maxRecDepth 100000
set_option maxHeartbeats 4000000
section
open Go.RowKit
attribute [local go_sem] odr
abbrev rcpV (a : Option Addr) (n cap : Nat) (N : Int) (e : En) (er : Nat) : Value := .tuple #[bv a n cap N, e.v, .int .i64 (er : Nat)]
theorem rcput_time (l : List Bool) (hl : l.length ≤ 700000) (a : Option Addr) (cap : Nat) (e : En) (he : e.wf) (hse : soundE e = true) (t : Int) (hc : ¬ comes e t) (v : Nat) (w : World) (hb : SlB w a cap (pack l)) :
    Calls Tryz.prog 108 #[bv a (pack l).length cap l.length, e.v, smV t v] w (Ret w (rcpV none 0 0 0 En.zero 60)) := by
  have H1 := hid (fun W hW => rsound_any (pack l) pack_lt (pkl (by omega)) l.length (by omega) a cap W hW); rw [spk] at H1; have HS := hid (fun W => rcsound_any e he W); rw [hse] at HS; have hn : 0 < e.n := by
   by_cases h0 : e.n = 0
   · exact absurd (.inl h0) hc
   · exact (soundE_pos hse h0).1
  have ht : t ≤ e.last := by
   apply Int.not_lt.1; intro h; exact hc (.inr h)
  clear hc
  go_enter Tryz.func108, Tryz.ntmps108; go_wp2_with (first | (go_at_call 63; (with_reducible refine (H1.out _ (by exact slA hb)).mono ?_); rintro _ _ ⟨⟨e1, rfl⟩, rfl⟩) | (go_at_call 133; (with_reducible refine (HS.out _).mono ?_); rintro _ _ ⟨⟨e2, rfl⟩, rfl⟩))
  (try simp only [Exit.inBlock, Exit.then])
  refine bodyPost_ret (v := ?rv86) ?rh86 rfl ?rp86
  case rh86 => (simp only [results, show Tryz.f108.results = #[.cell 6 49, .cell 7 111, .tmp 8] from rfl]; go_simp; rfl)
  exact ⟨ovA, rfl⟩
end
section
open Go.RowKit
attribute [local go_sem] odr
def RcpOwn (w : World) (L : List Bool) (e : En) (en : Ending) (w' : World) : Prop :=
 ∃ a c, en = .returned (rcpV a (pack L).length c L.length e 0) ∧ (∃ x, w' = over w x) ∧ OwnB w.heap.size w' (.slice a (pack L).length c) (pack L)
theorem rcput_new (l : List Bool) (hl : l.length ≤ 700000) (a : Option Addr) (cap : Nat) (t : Int) (ht : i64ok t) (v : Nat) (hv : v < 18446744073709551616) (w : World) (hT : TabW w) (hb : SlB w a cap (pack l)) :
    Calls Tryz.prog 108 #[bv a (pack l).length cap l.length, En.zero.v, smV t v] w (RcpOwn w (l ++ (laid En.zero t v).1) (laid En.zero t v).2) := by
  obtain ⟨e, hen⟩ : ∃ e, e = En.zero := ⟨_, rfl⟩; have he : e.wf := by rw [hen]; simp [En.wf, En.zero, i64ok, Vl.wf, Vl.zero]
  have hse : soundE e = true := by rw [hen]; rfl
  have H1 := hid (fun W hW => rsound_any (pack l) pack_lt (pkl (by omega)) l.length (by omega) a cap W hW); rw [spk] at H1; have HS := hid (fun W => rcsound_any e he W); rw [hse] at HS; subst hen; have hU : IntKind.u64.wrap t = ((uz t : Nat) : Int) := by rw [IntKind.wrap_u64]; unfold uz; omega
  have hul := uz_lt t; have e1 : (laid En.zero t v).1 = num (uz t) 64 ++ (written Vl.zero v).1 := rfl; have e2 : (laid En.zero t v).2 = ⟨1, t, 0, (written Vl.zero v).2⟩ := by
   simp only [laid, timeDelta, En.zero, if_true, show wz (0 + 1) = 1 by unfold wz; omega]
  rw [e1, e2, ← List.append_assoc]; generalize uz t = U at *; have H1Y := hid (fun W h => rbput_yes l (by omega) a cap U 64 hul (by omega) W h); have H1' : Hid (∀ W, SlB W a cap (pack l) → Calls Tryz.prog 39 #[bv a (pack l).length cap l.length, .int .u64 (U : Nat), .int .i64 64] W (RbOwn W (l ++ num U 64))) := H1Y; clear H1Y e1 e2; have hwl := written_len (s := Vl.zero) (v := v) rfl zero_wf2 hv; obtain ⟨L, hL⟩ : ∃ L, l ++ num U 64 = L := ⟨_, rfl⟩; have hLl : L.length ≤ 800000 := by rw [← hL, List.length_append, nml]; omega
  rw [hL] at H1' ⊢; have H2 := hid (fun a c W0 h1 => rxput_own L hLl a c Vl.zero zero_wf2 rfl v hv W0 h1); generalize (written Vl.zero v).2 = t' at *; obtain ⟨L2, hL2⟩ : ∃ L2, L ++ (written Vl.zero v).1 = L2 := ⟨_, rfl⟩; rw [hL2] at H2 ⊢; clear hL hL2 hwl; have H2' : Hid (∀ a c W, SlB W a c (pack L) → Calls Tryz.prog 135 #[bv a (pack L).length c L.length, .agg #[.bool false, .int .u64 0, .int .u8 0, .int .u8 0], .int .u64 (v : Nat)] W (RxOwn W L2 t')) := H2; clear H2; obtain ⟨ht1, ht2⟩ := ht; have HS2 : Hid (∀ W, Calls Tryz.prog 133 #[.agg #[.int .i64 0, .int .i64 0, .int .i64 0, .bool false, .int .u64 0, .int .u8 0, .int .u8 0]] W (Ret W (.bool true))) := HS; clear HS he hse; show Calls Tryz.prog 108 #[bv a (pack l).length cap l.length, .agg #[.int .i64 0, .int .i64 0, .int .i64 0, .bool false, .int .u64 0, .int .u8 0, .int .u8 0], smV t v] w _
  go_enter Tryz.func108, Tryz.ntmps108; go_wp2_with (first | (go_at_call 63; (with_reducible refine (H1.out _ (by exact slA hb)).mono ?_); rintro _ _ ⟨⟨e1, rfl⟩, rfl⟩) | (go_at_call 133; (with_reducible refine (HS2.out _).mono ?_); rintro _ _ ⟨⟨e2, rfl⟩, rfl⟩) | (go_at_call 39; (with_reducible refine (H1'.out _ (by exact slA hb)).mono ?_); rintro _ _ ⟨a3, c3, rfl, ⟨e3, rfl⟩, ho3⟩; have HO3 := hid ho3; clear ho3) | (go_at_call 135; (with_reducible refine (H2'.out _ _ _ (Own.slice' bcs_len (Own.ovw HO3.out (by exact szA) (by exact szA))).2).mono ?_); rintro _ _ ⟨a4, c4, rfl, ⟨e4, rfl⟩, ho4⟩; have HO4 := hid ho4; clear ho4))
  obtain ⟨F, hF⟩ : ∃ F, F = [w.heap.size + 1 + 1 + 1, w.heap.size + 1 + 1 + 1 + 1] := ⟨_, rfl⟩; have n1 : w.heap.size + 1 + 1 + 1 ∈ F := by rw [hF]; simp
  have n2 : w.heap.size + 1 + 1 + 1 + 1 ∈ F := by rw [hF]; simp
  have n3 : w.heap.size ∉ F := by rw [hF]; simp <;> omega
  have n4 : w.heap.size + 1 ∉ F := by rw [hF]; simp <;> omega
  have n5 : w.heap.size + 1 + 1 + 1 + 1 + 1 + e1.heap.size + e2.heap.size + e3.heap.size + e4.heap.size ∉ F := by rw [hF]; simp; omega
  have n6 : w.heap.size + 1 + 1 + 1 + 1 + 1 + e1.heap.size + e2.heap.size + e3.heap.size + e4.heap.size + 1 ∉ F := by rw [hF]; simp; omega
  have n7 : w.heap.size + 1 + 1 ∉ F := by rw [hF]; simp <;> omega
  clear hF; refine M2.wrz (fun w' => ∃ m : Mut, w' = chg F _ m) [9, 10] 12 (by kernel_rfl) (by kernel_rfl) (by decide) (chg_of (Chg.refl _ _)) ?_; simp only [M2.td]; with_reducible refine M2.mlq 9 (by kernel_rfl) ?_
  simp only [M2.td]; repeat (go_big_quiet_step (fail))
  with_reducible refine wpQuiet_nil ?_
  with_reducible refine M2.mle (by decide) ?_
  go_wp2_with (fail)
  refine M2.MixQ.mk (chg_of (by exact chA)) ?_; with_reducible refine M2.mle (by decide) ?_
  go_wp2_with (fail)
  refine M2.MixQ.mk (chg_of (by exact chA)) ?_; with_reducible refine M2.mlq 1 (by kernel_rfl) ?_
  simp only [M2.td]; repeat (go_big_quiet_step (fail))
  with_reducible refine wpQuiet_nil ?_
  with_reducible refine M2.mln ?_
  with_reducible refine M2.mln ?_
  go_wp2_with fail
  (try simp only [Exit.inBlock, Exit.then])
  refine bodyPost_ret (v := ?rv87) ?rh87 rfl ?rp87
  case rh87 => (simp only [results, show Tryz.f108.results = #[.cell 6 49, .cell 7 111, .tmp 8] from rfl]; go_simp; rfl)
  refine ⟨a4, c4, rfl, ovA, ?_⟩
  (repeat with_reducible refine Own.drew ?_)
  exact Own.mono (Own.alloc (Own.alloc (Own.ovw HO4.out (by exact szA) (by exact szA)) _) _) (by exact szA)
theorem rcput_on (l : List Bool) (hl : l.length ≤ 700000) (a : Option Addr) (cap : Nat) (e : En) (he : e.wf) (hse : soundE e = true) (h0 : e.n ≠ 0) (t : Int) (ht : i64ok t) (hc : e.last < t) (v : Nat) (hv : v < 18446744073709551616) (w : World) (hT : TabW w) (hb : SlB w a cap (pack l)) :
    Calls Tryz.prog 108 #[bv a (pack l).length cap l.length, e.v, smV t v] w (RcpOwn w (l ++ (laid e t v).1) (laid e t v).2) := by
  have H1 := hid (fun W hW => rsound_any (pack l) pack_lt (pkl (by omega)) l.length (by omega) a cap W hW); rw [spk] at H1; have HS := hid (fun W => rcsound_any e he W); rw [hse] at HS; have hpos := soundE_pos hse h0; obtain ⟨n, last, delta, val⟩ := e; simp only at h0 hc hpos; obtain ⟨hn0, hvh, hsv⟩ := hpos; clear hvh; have hval := he.2.2.2; simp only at hval; have e1 : (laid ⟨n, last, delta, val⟩ t v).1 = zbits (foldZ (wz (wz (t - last) - delta))) ++ (written val v).1 := by simp only [laid, timeBits]; rw [if_neg h0]
  have e2 : (laid ⟨n, last, delta, val⟩ t v).2 = ⟨wz (n + 1), t, wz (t - last), (written val v).2⟩ := by simp only [laid, timeDelta]; rw [if_neg h0]
  rw [e1, e2, ← List.append_assoc]; have hw1 : wrap64 (t - last) = wz (t - last) := wrap64_wz _; have hw0 : wrap64 (IntKind.u64.wrap (IntKind.u64.wrap t - IntKind.u64.wrap last)) = wz (t - last) := by simp only [IntKind.wrap_u64]; unfold wrap64 wz; omega
  have hw2 : wrap64 (n + 1) = wz (n + 1) := wrap64_wz _; have hd := wz_ok (t - last); generalize wz (t - last) = D at *; have hw3 : wrap64 (IntKind.u64.wrap (IntKind.u64.wrap D - IntKind.u64.wrap delta)) = wz (D - delta) := by simp only [IntKind.wrap_u64]; unfold wrap64 wz; omega
  have hd2 := wz_ok (D - delta); have H1X := hid (fun W h => rzput_yes l (by omega) a cap (wz (D - delta)) hd2 W h); have hzl := zbits_len (foldZ (wz (D - delta))); obtain ⟨L, hL⟩ : ∃ L, l ++ zbits (foldZ (wz (D - delta))) = L := ⟨_, rfl⟩; have hLl : L.length ≤ 800000 := by rw [← hL, List.length_append]; omega
  rw [hL] at H1X ⊢; generalize wz (D - delta) = D2 at *; generalize wz (n + 1) = n' at *; have H2 := hid (fun a c W0 h1 => rxput_own L hLl a c val hval hsv v hv W0 h1); generalize (written val v).2 = t' at *; obtain ⟨L2, hL2⟩ : ∃ L2, L ++ (written val v).1 = L2 := ⟨_, rfl⟩; rw [hL2] at H2 ⊢; clear hL hL2 hzl e1 e2 hse; obtain ⟨ht1, ht2⟩ := ht; obtain ⟨⟨q1, q2⟩, ⟨q3, q4⟩, ⟨q5, q6⟩, _⟩ := he; obtain ⟨q7, q8⟩ := hd; obtain ⟨q9, q10⟩ := hd2; simp only at q1 q2 q3 q4 q5 q6; have hn1 : (n == 0) = false := by simp; exact h0
  go_enter Tryz.func108, Tryz.ntmps108; go_wp2_with (first | (go_at_call 63; (with_reducible refine (H1.out _ (by exact slA hb)).mono ?_); rintro _ _ ⟨⟨e1, rfl⟩, rfl⟩) | (go_at_call 133; (with_reducible refine (HS.out _).mono ?_); rintro _ _ ⟨⟨e2, rfl⟩, rfl⟩) | (go_at_call 134; (with_reducible refine (H1X.out _ (by exact slA hb)).mono ?_); rintro _ _ ⟨a3, c3, rfl, ⟨e3, rfl⟩, ho3⟩; have HO3 := hid ho3; clear ho3) | (go_at_call 135; (with_reducible refine (H2.out _ _ _ (Own.slice' bcs_len (Own.ovw HO3.out (by exact szA) (by exact szA))).2).mono ?_); rintro _ _ ⟨a4, c4, rfl, ⟨e4, rfl⟩, ho4⟩; have HO4 := hid ho4; clear ho4))
  obtain ⟨F, hF⟩ : ∃ F, F = [w.heap.size + 1 + 1 + 1, w.heap.size + 1 + 1 + 1 + 1] := ⟨_, rfl⟩; have n1 : w.heap.size + 1 + 1 + 1 ∈ F := by rw [hF]; simp
  have n2 : w.heap.size + 1 + 1 + 1 + 1 ∈ F := by rw [hF]; simp
  have n3 : w.heap.size ∉ F := by rw [hF]; simp <;> omega
  have n4 : w.heap.size + 1 ∉ F := by rw [hF]; simp <;> omega
  have n5 : w.heap.size + 1 + 1 + 1 + 1 + 1 + e1.heap.size + e2.heap.size + e3.heap.size + e4.heap.size ∉ F := by rw [hF]; simp; omega
  have n6 : w.heap.size + 1 + 1 + 1 + 1 + 1 + e1.heap.size + e2.heap.size + e3.heap.size + e4.heap.size + 1 ∉ F := by rw [hF]; simp; omega
  have n7 : w.heap.size + 1 + 1 ∉ F := by rw [hF]; simp <;> omega
  clear hF; refine M2.wrz (fun w' => ∃ m : Mut, w' = chg F _ m) [9, 10] 12 (by kernel_rfl) (by kernel_rfl) (by decide) (chg_of (Chg.refl _ _)) ?_; simp only [M2.td]; with_reducible refine M2.mlq 9 (by kernel_rfl) ?_
  simp only [M2.td]; repeat (go_big_quiet_step (fail))
  with_reducible refine wpQuiet_nil ?_
  with_reducible refine M2.mle (by decide) ?_
  go_wp2_with (fail)
  refine M2.MixQ.mk (chg_of (by exact chA)) ?_; with_reducible refine M2.mle (by decide) ?_
  go_wp2_with (fail)
  refine M2.MixQ.mk (chg_of (by exact chA)) ?_; with_reducible refine M2.mlq 1 (by kernel_rfl) ?_
  simp only [M2.td]; repeat (go_big_quiet_step (fail))
  with_reducible refine wpQuiet_nil ?_
  with_reducible refine M2.mln ?_
  with_reducible refine M2.mln ?_
  go_wp2_with fail
  (try simp only [Exit.inBlock, Exit.then])
  refine bodyPost_ret (v := ?rv88) ?rh88 rfl ?rp88
  case rh88 => (simp only [results, show Tryz.f108.results = #[.cell 6 49, .cell 7 111, .tmp 8] from rfl]; go_simp; rfl)
  refine ⟨a4, c4, rfl, ovA, ?_⟩
  (repeat with_reducible refine Own.drew ?_)
  exact Own.mono (Own.alloc (Own.alloc (Own.ovw HO4.out (by exact szA) (by exact szA)) _) _) (by exact szA)
theorem rcput_own (l : List Bool) (hl : l.length ≤ 700000) (a : Option Addr) (cap : Nat) (e : En) (he : e.wf) (hse : soundE e = true) (t : Int) (ht : i64ok t) (hc : comes e t) (v : Nat) (hv : v < 18446744073709551616) (w : World) (hT : TabW w) (hb : SlB w a cap (pack l)) :
    Calls Tryz.prog 108 #[bv a (pack l).length cap l.length, e.v, smV t v] w (RcpOwn w (l ++ (laid e t v).1) (laid e t v).2) := by
  by_cases h0 : e.n = 0
  · have := soundE_zero hse h0; subst this; exact rcput_new l hl a cap t ht v hv w hT hb
  · exact rcput_on l hl a cap e he hse h0 t ht (by rcases hc with h | h; exact absurd h h0; exact h) v hv w hT hb
end
end Go.Proofs.YtnffcckhdedhpaaGreatDoor
