import Derived.Test.YtnffcckhdedhpaaGreatDoorGH
import Derived.Test.YtnffcckhdedhpaaGreatDoorGA
namespace Go.Proofs.YtnffcckhdedhpaaGreatDoor
set_option linter.unusedVariables false
set_option linter.unusedSimpArgs false
set_option maxRecDepth 100000
set_option maxHeartbeats 2000000
section
open Go.RowKit
attribute [local go_sem] odr cdr
theorem xget_newb (l : List Bool) (hl : l.length ≤ 800000) (a : Option Addr) (cap : Nat) (at_ : Int) (hat : -9223372036854775808 ≤ at_ ∧ at_ ≤ 9223372036854775807) (s : Vl) (hs : s.wf) (hsd : soundV s = true) (hh : s.has = true) (w : World) (hT : TabW w) (hb : SlB w a cap (pack l))
    (q1 : Nat) (hg : getN l at_ 1 = (1, q1)) (n : Int) (d L Z : Nat) (hd : d < 18446744073709551616) (h0 : d ≠ 0) (hLZ : L ≤ 64 ∧ Z ≤ 64) (hdf : ∀ p, DF l a cap p at_ s d L Z true n 0) (hib : inBand s.lead s.width d = true) :
    Calls Tryz.prog 126 #[bv a (pack l).length cap l.length, .int .i64 at_, s.v] w (Ret w (xgV 0 0 Vl.zero 30)) := by
  have hlw := (soundV_has hsd hh).2.1; have HW := hid (fun W hW => xwrong_any (pack l) pack_lt (pkl (by omega)) l.length (by omega) a cap s hs W hW); rw [spk, hsd, show wrongX true true = 0 from rfl] at HW; have HW' : Hid (∀ W, SlB W a cap (pack l) → Calls Tryz.prog 105 #[bv a (pack l).length cap l.length, s.v] W (Ret W (.int .u16 0))) := HW; clear HW; have HG := hid (fun W hW => bget_any l (by omega) at_ hat 1 (by decide) a cap W hW); rw [hg] at HG; have HG' : Hid (∀ W, SlB W a cap (pack l) → Calls Tryz.prog 144 #[bv a (pack l).length cap l.length, .int .i64 at_, .int .i64 1] W (Ret W (.tuple #[.int .u64 (1 : Nat), .int .u16 (q1 : Nat)]))) := HG; clear HG hg; obtain ⟨has, prev, lead, width⟩ := s; simp only at hh; subst hh; have HDF := hid hdf; have HO := hid (fun W => of_any ⟨true, prev, lead, width⟩ hs W); obtain ⟨hs1, hs2, hs3⟩ := hs; clear hdf
  go_enter Tryz.func126, Tryz.ntmps126; go_wp2_with (first | (go_at_call 105; (with_reducible refine (HW'.out _ (by exact slA hb)).mono ?_); rintro _ _ ⟨⟨e3, rfl⟩, rfl⟩) | (go_at_call 144; (with_reducible refine (HG'.out _ (by exact slA hb)).mono ?_); rintro _ _ ⟨⟨e4, rfl⟩, rfl⟩))
  go_at_call 148
  have hF : ∀ i ∈ [w.heap.size + 1 + 1 + 1 + e3.heap.size], w.heap.size ≤ i := by simp; omega
  with_reducible refine (HDF.out _ _ (fun w' hc => Sl.chg_old hb (by unfold Ov; exact ovA) hc hF) (by exact blA)).mono ?_
  rintro _ w2 ⟨rfl, m2, at2, hw, hb2, hz⟩; have H2 := hid hb2; have HZ := hid hz; have O2 : Hid (∃ e, w2 = over w e) := hid (by rw [hw]; exact ovA); have B8 : Hid (Blk w2 (w.heap.size + 1 + 1) [.bool false, .int .u64 0, .int .u8 0, .int .u8 0] 109) := hid (by rw [hw]; exact (by exact blA)); have B5 : Hid (Blk w2 (w.heap.size + 1) [.bool true, .int .u64 prev, .int .u8 lead, .int .u8 width] 109) := hid (by rw [hw]; exact (by exact blA)); clear hw hb2 hz HDF hF; have n8 : ¬ (w.heap.size + 1 + 1 = w.heap.size + 1 + 1 + 1 + e3.heap.size) := by omega
  have n5 : ¬ (w.heap.size + 1 = w.heap.size + 1 + 1 + 1 + e3.heap.size) := by omega
  have q5 : w.heap.size ≤ w.heap.size + 1 := by omega
  have q8 : w.heap.size ≤ w.heap.size + 1 + 1 := by omega
  have n58 : ¬ (w.heap.size + 1 = w.heap.size + 1 + 1) := by omega
  have n85 : ¬ (w.heap.size + 1 + 1 = w.heap.size + 1) := by omega
  have qp : w.heap.size ≤ w.heap.size + 1 + 1 + 1 + e3.heap.size := by omega
  generalize w.heap.size + 1 + 1 + 1 + e3.heap.size = p at *; generalize w.heap.size + 1 + 1 = t8 at *; generalize w.heap.size + 1 = t5 at *; obtain rfl := HZ.out rfl; have H2' : Hid (RdAt w2 p a cap l at2 0) := H2; clear H2; have H2 := H2'; clear H2'; have b80 := B8.out.cell 0 rfl; have b81 := B8.out.cell 1 rfl; have b82 := B8.out.cell 2 rfl; have b83 := B8.out.cell 3 rfl; have f80 := B8.out.free 0; have f81 := B8.out.free 1; have f82 := B8.out.free 2; have f83 := B8.out.free 3; have hl8 := B8.out.lt; have b50 := B5.out.cell 0 rfl; have b51 := B5.out.cell 1 rfl; have b52 := B5.out.cell 2 rfl; have b53 := B5.out.cell 3 rfl; have f50 := B5.out.free 0; have f51 := B5.out.free 1; have f52 := B5.out.free 2; have f53 := B5.out.free 3; have hl5 := B5.out.lt; have m51 : ∀ x y, t5 < w2.heap.size + x + y := fun x y => by omega
  have m52 : ∀ x y z, t5 < w2.heap.size + x + y + z := fun x y z => by omega
  have m81 : ∀ x y, t8 < w2.heap.size + x + y := fun x y => by omega
  have m82 : ∀ x y z, t8 < w2.heap.size + x + y + z := fun x y z => by omega
  have r2 := H2.out.cell 2 rfl; have r3 := H2.out.cell 3 rfl; have r3f := H2.out.free 3; have hp := H2.out.lt; have mp1 : ∀ x y, p < w2.heap.size + x + y := fun x y => by omega
  have mp2 : ∀ x y z, p < w2.heap.size + x + y + z := fun x y z => by omega
  obtain ⟨hL, hZ⟩ := hLZ
  (try simp only at hlw)
  have T2 : Hid (TabW w2) := hid (TabW.ov hT O2.out); have HB := hid (fun W hW => has_any lead width d hd h0 hlw W hW); have hX := xor64 prev d hs1 hd; have h0' : ((d : Int) == 0) = false := by simp; omega
  obtain ⟨Y, hY⟩ : ∃ Y, prev ^^^ d = Y := ⟨_, rfl⟩; rw [hY] at hX; have HY := hid hY; clear hY
  (try simp only at hib)
  rw [hib] at HB; have HE := hid (fun W (h : RdAt W p a cap l at2 ((30 : Nat) : Int)) => end_err W p a cap l at2 30 (by decide) h Y ⟨true, Y, L, Z⟩); have H6 : Hid (∀ W, Blk W p (([.slice a (pack l).length cap, .int .i64 (l.length : Nat), .int .i64 at2, .int .u16 0] : List Value).set 3 (.int .u16 30)) 248 → RdAt W p a cap l at2 ((30 : Nat) : Int)) := hid (fun W h => h); go_wp2_with (go_at_call 129; (with_reducible refine (HO.out _).mono ?_); rintro _ _ ⟨⟨e6, rfl⟩, rfl⟩)
  refine M2.wrm [4, 8] 13 (by kernel_rfl) (by kernel_rfl) (by decide) ?_; simp only [M2.td]; with_reducible refine M2.mlq 4 (by kernel_rfl) ?_
  simp only [M2.td]; repeat (go_big_quiet_step (fail))
  with_reducible refine wpQuiet_nil ?_
  with_reducible refine M2.mixL_eff (by decide) ?_
  go_wp2_with ((go_at_call 130; (with_reducible refine (HB.out _ (by exact tabA T2.out)).mono ?_); rintro _ _ ⟨⟨e7, rfl⟩, rfl⟩))
  refine M2.MixQ.mk ovA ?_; with_reducible refine M2.mlq 3 (by kernel_rfl) ?_
  simp only [M2.td]; repeat (go_big_quiet_step (fail))
  with_reducible refine wpQuiet_nil ?_
  with_reducible refine M2.mixL_eff (by decide) ?_
  go_wp2_with ((go_at_call 132; (with_reducible refine (HA.out _ (by exact tabA T2.out)).mono ?_); rintro _ _ ⟨⟨e8, rfl⟩, rfl⟩))
  refine M2.MixQ.mk ovA ?_; with_reducible refine M2.mlq 4 (by kernel_rfl) ?_
  simp only [M2.td]; repeat (go_big_quiet_step (fail))
  with_reducible refine wpQuiet_nil ?_
  with_reducible refine M2.mln ?_
  with_reducible refine M2.mln ?_
  go_wp2_with fail
  obtain ⟨F, hF⟩ : ∃ F, F = [t5] := ⟨_, rfl⟩; have m1 : t5 ∈ F := by rw [hF]; simp
  have m3 : w2.heap.size ∉ F := by rw [hF]; simp; omega
  clear hF; refine M2.wrz (fun w' => ∃ m : Mut, w' = chg F _ m) [7, 9] 10 (by kernel_rfl) (by kernel_rfl) (by decide) (chg_of (Chg.refl _ _)) ?_; simp only [M2.td]; with_reducible refine M2.mlq 7 (by kernel_rfl) ?_
  simp only [M2.td]; repeat (go_big_quiet_step (fail))
  with_reducible refine wpQuiet_nil ?_
  with_reducible refine M2.mixL_eff (by decide) ?_
  go_wp2_with (fail)
  refine M2.MixQ.mk (chg_of (by exact chA)) ?_; with_reducible refine M2.mlq 1 (by kernel_rfl) ?_
  simp only [M2.td]; repeat (go_big_quiet_step (fail))
  with_reducible refine wpQuiet_nil ?_
  with_reducible refine M2.mixL_eff (by decide) ?_
  go_wp2_with (fail)
  refine M2.MixQ.mk (chg_of (by exact chA)) ?_; with_reducible refine M2.mln ?_
  with_reducible refine M2.mln ?_
  go_wp2_with (go_at_call 147; (with_reducible refine (HE.out _ (H6.out _ (by repeat (first | with_reducible exact H2.out | with_reducible refine Blk.alloc ?_ _ | with_reducible refine Blk.drew ?_ | with_reducible refine Blk.on ?_ _ | with_reducible refine Blk.set ?_ _ _ | ((with_reducible refine Blk.set_ne ?_ ?_ _); rotate_left; (first | (focus (simp; done)) | (focus (simp; omega)))))))).mono ?_); rintro _ _ ⟨⟨e5, rfl⟩, rfl⟩)
  (try simp only [Exit.inBlock, Exit.then])
  refine bodyPost_ret (v := ?rv47) ?rh47 rfl ?rp47
  case rh47 => (simp only [results, show Tryz.f126.results = #[.tmp 6, .tmp 7, .cell 8 109, .tmp 9] from rfl]; go_simp; rfl)
  exact ⟨(ovB O2.out), rfl⟩
theorem xget_newc1 (l : List Bool) (hl : l.length ≤ 800000) (a : Option Addr) (cap : Nat) (at_ : Int) (hat : -9223372036854775808 ≤ at_ ∧ at_ ≤ 9223372036854775807) (s : Vl) (hs : s.wf) (hsd : soundV s = true) (hh : s.has = true) (w : World) (hT : TabW w) (hb : SlB w a cap (pack l))
    (q1 : Nat) (hg : getN l at_ 1 = (1, q1)) (n : Int) (d L Z : Nat) (hd : d < 18446744073709551616) (h0 : d ≠ 0) (hLZ : L ≤ 64 ∧ Z ≤ 64) (hdf : ∀ p, DF l a cap p at_ s d L Z true n 0) (hib : inBand s.lead s.width d = false) (hc : ¬ L = aLead d) :
    Calls Tryz.prog 126 #[bv a (pack l).length cap l.length, .int .i64 at_, s.v] w (Ret w (xgV 0 0 Vl.zero 30)) := by
  have hlw := (soundV_has hsd hh).2.1; have HW := hid (fun W hW => xwrong_any (pack l) pack_lt (pkl (by omega)) l.length (by omega) a cap s hs W hW); rw [spk, hsd, show wrongX true true = 0 from rfl] at HW; have HW' : Hid (∀ W, SlB W a cap (pack l) → Calls Tryz.prog 105 #[bv a (pack l).length cap l.length, s.v] W (Ret W (.int .u16 0))) := HW; clear HW; have HG := hid (fun W hW => bget_any l (by omega) at_ hat 1 (by decide) a cap W hW); rw [hg] at HG; have HG' : Hid (∀ W, SlB W a cap (pack l) → Calls Tryz.prog 144 #[bv a (pack l).length cap l.length, .int .i64 at_, .int .i64 1] W (Ret W (.tuple #[.int .u64 (1 : Nat), .int .u16 (q1 : Nat)]))) := HG; clear HG hg; obtain ⟨has, prev, lead, width⟩ := s; simp only at hh; subst hh; have HDF := hid hdf; have HO := hid (fun W => of_any ⟨true, prev, lead, width⟩ hs W); obtain ⟨hs1, hs2, hs3⟩ := hs; clear hdf
  go_enter Tryz.func126, Tryz.ntmps126; go_wp2_with (first | (go_at_call 105; (with_reducible refine (HW'.out _ (by exact slA hb)).mono ?_); rintro _ _ ⟨⟨e3, rfl⟩, rfl⟩) | (go_at_call 144; (with_reducible refine (HG'.out _ (by exact slA hb)).mono ?_); rintro _ _ ⟨⟨e4, rfl⟩, rfl⟩))
  go_at_call 148
  have hF : ∀ i ∈ [w.heap.size + 1 + 1 + 1 + e3.heap.size], w.heap.size ≤ i := by simp; omega
  with_reducible refine (HDF.out _ _ (fun w' hc => Sl.chg_old hb (by unfold Ov; exact ovA) hc hF) (by exact blA)).mono ?_
  rintro _ w2 ⟨rfl, m2, at2, hw, hb2, hz⟩; have H2 := hid hb2; have HZ := hid hz; have O2 : Hid (∃ e, w2 = over w e) := hid (by rw [hw]; exact ovA); have B8 : Hid (Blk w2 (w.heap.size + 1 + 1) [.bool false, .int .u64 0, .int .u8 0, .int .u8 0] 109) := hid (by rw [hw]; exact (by exact blA)); have B5 : Hid (Blk w2 (w.heap.size + 1) [.bool true, .int .u64 prev, .int .u8 lead, .int .u8 width] 109) := hid (by rw [hw]; exact (by exact blA)); clear hw hb2 hz HDF hF; have n8 : ¬ (w.heap.size + 1 + 1 = w.heap.size + 1 + 1 + 1 + e3.heap.size) := by omega
  have n5 : ¬ (w.heap.size + 1 = w.heap.size + 1 + 1 + 1 + e3.heap.size) := by omega
  have q5 : w.heap.size ≤ w.heap.size + 1 := by omega
  have q8 : w.heap.size ≤ w.heap.size + 1 + 1 := by omega
  have n58 : ¬ (w.heap.size + 1 = w.heap.size + 1 + 1) := by omega
  have n85 : ¬ (w.heap.size + 1 + 1 = w.heap.size + 1) := by omega
  have qp : w.heap.size ≤ w.heap.size + 1 + 1 + 1 + e3.heap.size := by omega
  generalize w.heap.size + 1 + 1 + 1 + e3.heap.size = p at *; generalize w.heap.size + 1 + 1 = t8 at *; generalize w.heap.size + 1 = t5 at *; obtain rfl := HZ.out rfl; have H2' : Hid (RdAt w2 p a cap l at2 0) := H2; clear H2; have H2 := H2'; clear H2'; have b80 := B8.out.cell 0 rfl; have b81 := B8.out.cell 1 rfl; have b82 := B8.out.cell 2 rfl; have b83 := B8.out.cell 3 rfl; have f80 := B8.out.free 0; have f81 := B8.out.free 1; have f82 := B8.out.free 2; have f83 := B8.out.free 3; have hl8 := B8.out.lt; have b50 := B5.out.cell 0 rfl; have b51 := B5.out.cell 1 rfl; have b52 := B5.out.cell 2 rfl; have b53 := B5.out.cell 3 rfl; have f50 := B5.out.free 0; have f51 := B5.out.free 1; have f52 := B5.out.free 2; have f53 := B5.out.free 3; have hl5 := B5.out.lt; have m51 : ∀ x y, t5 < w2.heap.size + x + y := fun x y => by omega
  have m52 : ∀ x y z, t5 < w2.heap.size + x + y + z := fun x y z => by omega
  have m81 : ∀ x y, t8 < w2.heap.size + x + y := fun x y => by omega
  have m82 : ∀ x y z, t8 < w2.heap.size + x + y + z := fun x y z => by omega
  have r2 := H2.out.cell 2 rfl; have r3 := H2.out.cell 3 rfl; have r3f := H2.out.free 3; have hp := H2.out.lt; have mp1 : ∀ x y, p < w2.heap.size + x + y := fun x y => by omega
  have mp2 : ∀ x y z, p < w2.heap.size + x + y + z := fun x y z => by omega
  obtain ⟨hL, hZ⟩ := hLZ
  (try simp only at hlw)
  have T2 : Hid (TabW w2) := hid (TabW.ov hT O2.out); have HB := hid (fun W hW => has_any lead width d hd h0 hlw W hW); have hX := xor64 prev d hs1 hd; have h0' : ((d : Int) == 0) = false := by simp; omega
  obtain ⟨Y, hY⟩ : ∃ Y, prev ^^^ d = Y := ⟨_, rfl⟩; rw [hY] at hX; have HY := hid hY; clear hY
  (try simp only at hib)
  rw [hib] at HB; have HA := hid (fun W hW => around_any d hd h0 W hW); generalize aLead d = A at *; generalize aSize d = B at *; have hc1 : ((L : Int) == (A : Int)) = false := by simp; omega
  have hc2 : (L == A) = false := by simp; omega
  have hc3 : ¬ (L : Int) = (A : Int) := by omega
  have HE := hid (fun W (h : RdAt W p a cap l at2 ((30 : Nat) : Int)) => end_err W p a cap l at2 30 (by decide) h Y ⟨true, Y, L, Z⟩); have H6 : Hid (∀ W, Blk W p (([.slice a (pack l).length cap, .int .i64 (l.length : Nat), .int .i64 at2, .int .u16 0] : List Value).set 3 (.int .u16 30)) 248 → RdAt W p a cap l at2 ((30 : Nat) : Int)) := hid (fun W h => h); go_wp2_with (go_at_call 129; (with_reducible refine (HO.out _).mono ?_); rintro _ _ ⟨⟨e6, rfl⟩, rfl⟩)
  refine M2.wrm [4, 8] 13 (by kernel_rfl) (by kernel_rfl) (by decide) ?_; simp only [M2.td]; with_reducible refine M2.mlq 4 (by kernel_rfl) ?_
  simp only [M2.td]; repeat (go_big_quiet_step (fail))
  with_reducible refine wpQuiet_nil ?_
  with_reducible refine M2.mixL_eff (by decide) ?_
  go_wp2_with ((go_at_call 130; (with_reducible refine (HB.out _ (by exact tabA T2.out)).mono ?_); rintro _ _ ⟨⟨e7, rfl⟩, rfl⟩))
  refine M2.MixQ.mk ovA ?_; with_reducible refine M2.mlq 3 (by kernel_rfl) ?_
  simp only [M2.td]; repeat (go_big_quiet_step (fail))
  with_reducible refine wpQuiet_nil ?_
  with_reducible refine M2.mixL_eff (by decide) ?_
  go_wp2_with ((go_at_call 132; (with_reducible refine (HA.out _ (by exact tabA T2.out)).mono ?_); rintro _ _ ⟨⟨e8, rfl⟩, rfl⟩))
  refine M2.MixQ.mk ovA ?_; with_reducible refine M2.mlq 4 (by kernel_rfl) ?_
  simp only [M2.td]; repeat (go_big_quiet_step (fail))
  with_reducible refine wpQuiet_nil ?_
  with_reducible refine M2.mln ?_
  with_reducible refine M2.mln ?_
  go_wp2_with fail
  obtain ⟨F, hF⟩ : ∃ F, F = [t5] := ⟨_, rfl⟩; have m1 : t5 ∈ F := by rw [hF]; simp
  have m3 : w2.heap.size ∉ F := by rw [hF]; simp; omega
  clear hF; refine M2.wrz (fun w' => ∃ m : Mut, w' = chg F _ m) [7, 9] 10 (by kernel_rfl) (by kernel_rfl) (by decide) (chg_of (Chg.refl _ _)) ?_; simp only [M2.td]; with_reducible refine M2.mlq 7 (by kernel_rfl) ?_
  simp only [M2.td]; repeat (go_big_quiet_step (fail))
  with_reducible refine wpQuiet_nil ?_
  with_reducible refine M2.mixL_eff (by decide) ?_
  go_wp2_with (fail)
  refine M2.MixQ.mk (chg_of (by exact chA)) ?_; with_reducible refine M2.mlq 1 (by kernel_rfl) ?_
  simp only [M2.td]; repeat (go_big_quiet_step (fail))
  with_reducible refine wpQuiet_nil ?_
  with_reducible refine M2.mixL_eff (by decide) ?_
  go_wp2_with (fail)
  refine M2.MixQ.mk (chg_of (by exact chA)) ?_; with_reducible refine M2.mln ?_
  with_reducible refine M2.mln ?_
  go_wp2_with (go_at_call 147; (with_reducible refine (HE.out _ (H6.out _ (by repeat (first | with_reducible exact H2.out | with_reducible refine Blk.alloc ?_ _ | with_reducible refine Blk.drew ?_ | with_reducible refine Blk.on ?_ _ | with_reducible refine Blk.set ?_ _ _ | ((with_reducible refine Blk.set_ne ?_ ?_ _); rotate_left; (first | (focus (simp; done)) | (focus (simp; omega)))))))).mono ?_); rintro _ _ ⟨⟨e5, rfl⟩, rfl⟩)
  (try simp only [Exit.inBlock, Exit.then])
  refine bodyPost_ret (v := ?rv48) ?rh48 rfl ?rp48
  case rh48 => (simp only [results, show Tryz.f126.results = #[.tmp 6, .tmp 7, .cell 8 109, .tmp 9] from rfl]; go_simp; rfl)
  exact ⟨(ovB O2.out), rfl⟩
theorem xget_newc2 (l : List Bool) (hl : l.length ≤ 800000) (a : Option Addr) (cap : Nat) (at_ : Int) (hat : -9223372036854775808 ≤ at_ ∧ at_ ≤ 9223372036854775807) (s : Vl) (hs : s.wf) (hsd : soundV s = true) (hh : s.has = true) (w : World) (hT : TabW w) (hb : SlB w a cap (pack l))
    (q1 : Nat) (hg : getN l at_ 1 = (1, q1)) (n : Int) (d L Z : Nat) (hd : d < 18446744073709551616) (h0 : d ≠ 0) (hLZ : L ≤ 64 ∧ Z ≤ 64) (hdf : ∀ p, DF l a cap p at_ s d L Z true n 0) (hib : inBand s.lead s.width d = false) (hcl : L = aLead d) (hc : ¬ Z = aSize d) :
    Calls Tryz.prog 126 #[bv a (pack l).length cap l.length, .int .i64 at_, s.v] w (Ret w (xgV 0 0 Vl.zero 30)) := by
  have hlw := (soundV_has hsd hh).2.1; have HW := hid (fun W hW => xwrong_any (pack l) pack_lt (pkl (by omega)) l.length (by omega) a cap s hs W hW); rw [spk, hsd, show wrongX true true = 0 from rfl] at HW; have HW' : Hid (∀ W, SlB W a cap (pack l) → Calls Tryz.prog 105 #[bv a (pack l).length cap l.length, s.v] W (Ret W (.int .u16 0))) := HW; clear HW; have HG := hid (fun W hW => bget_any l (by omega) at_ hat 1 (by decide) a cap W hW); rw [hg] at HG; have HG' : Hid (∀ W, SlB W a cap (pack l) → Calls Tryz.prog 144 #[bv a (pack l).length cap l.length, .int .i64 at_, .int .i64 1] W (Ret W (.tuple #[.int .u64 (1 : Nat), .int .u16 (q1 : Nat)]))) := HG; clear HG hg; obtain ⟨has, prev, lead, width⟩ := s; simp only at hh; subst hh; have HDF := hid hdf; have HO := hid (fun W => of_any ⟨true, prev, lead, width⟩ hs W); obtain ⟨hs1, hs2, hs3⟩ := hs; clear hdf
  go_enter Tryz.func126, Tryz.ntmps126; go_wp2_with (first | (go_at_call 105; (with_reducible refine (HW'.out _ (by exact slA hb)).mono ?_); rintro _ _ ⟨⟨e3, rfl⟩, rfl⟩) | (go_at_call 144; (with_reducible refine (HG'.out _ (by exact slA hb)).mono ?_); rintro _ _ ⟨⟨e4, rfl⟩, rfl⟩))
  go_at_call 148
  have hF : ∀ i ∈ [w.heap.size + 1 + 1 + 1 + e3.heap.size], w.heap.size ≤ i := by simp; omega
  with_reducible refine (HDF.out _ _ (fun w' hc => Sl.chg_old hb (by unfold Ov; exact ovA) hc hF) (by exact blA)).mono ?_
  rintro _ w2 ⟨rfl, m2, at2, hw, hb2, hz⟩; have H2 := hid hb2; have HZ := hid hz; have O2 : Hid (∃ e, w2 = over w e) := hid (by rw [hw]; exact ovA); have B8 : Hid (Blk w2 (w.heap.size + 1 + 1) [.bool false, .int .u64 0, .int .u8 0, .int .u8 0] 109) := hid (by rw [hw]; exact (by exact blA)); have B5 : Hid (Blk w2 (w.heap.size + 1) [.bool true, .int .u64 prev, .int .u8 lead, .int .u8 width] 109) := hid (by rw [hw]; exact (by exact blA)); clear hw hb2 hz HDF hF; have n8 : ¬ (w.heap.size + 1 + 1 = w.heap.size + 1 + 1 + 1 + e3.heap.size) := by omega
  have n5 : ¬ (w.heap.size + 1 = w.heap.size + 1 + 1 + 1 + e3.heap.size) := by omega
  have q5 : w.heap.size ≤ w.heap.size + 1 := by omega
  have q8 : w.heap.size ≤ w.heap.size + 1 + 1 := by omega
  have n58 : ¬ (w.heap.size + 1 = w.heap.size + 1 + 1) := by omega
  have n85 : ¬ (w.heap.size + 1 + 1 = w.heap.size + 1) := by omega
  have qp : w.heap.size ≤ w.heap.size + 1 + 1 + 1 + e3.heap.size := by omega
  generalize w.heap.size + 1 + 1 + 1 + e3.heap.size = p at *; generalize w.heap.size + 1 + 1 = t8 at *; generalize w.heap.size + 1 = t5 at *; obtain rfl := HZ.out rfl; have H2' : Hid (RdAt w2 p a cap l at2 0) := H2; clear H2; have H2 := H2'; clear H2'; have b80 := B8.out.cell 0 rfl; have b81 := B8.out.cell 1 rfl; have b82 := B8.out.cell 2 rfl; have b83 := B8.out.cell 3 rfl; have f80 := B8.out.free 0; have f81 := B8.out.free 1; have f82 := B8.out.free 2; have f83 := B8.out.free 3; have hl8 := B8.out.lt; have b50 := B5.out.cell 0 rfl; have b51 := B5.out.cell 1 rfl; have b52 := B5.out.cell 2 rfl; have b53 := B5.out.cell 3 rfl; have f50 := B5.out.free 0; have f51 := B5.out.free 1; have f52 := B5.out.free 2; have f53 := B5.out.free 3; have hl5 := B5.out.lt; have m51 : ∀ x y, t5 < w2.heap.size + x + y := fun x y => by omega
  have m52 : ∀ x y z, t5 < w2.heap.size + x + y + z := fun x y z => by omega
  have m81 : ∀ x y, t8 < w2.heap.size + x + y := fun x y => by omega
  have m82 : ∀ x y z, t8 < w2.heap.size + x + y + z := fun x y z => by omega
  have r2 := H2.out.cell 2 rfl; have r3 := H2.out.cell 3 rfl; have r3f := H2.out.free 3; have hp := H2.out.lt; have mp1 : ∀ x y, p < w2.heap.size + x + y := fun x y => by omega
  have mp2 : ∀ x y z, p < w2.heap.size + x + y + z := fun x y z => by omega
  obtain ⟨hL, hZ⟩ := hLZ
  (try simp only at hlw)
  have T2 : Hid (TabW w2) := hid (TabW.ov hT O2.out); have HB := hid (fun W hW => has_any lead width d hd h0 hlw W hW); have hX := xor64 prev d hs1 hd; have h0' : ((d : Int) == 0) = false := by simp; omega
  obtain ⟨Y, hY⟩ : ∃ Y, prev ^^^ d = Y := ⟨_, rfl⟩; rw [hY] at hX; have HY := hid hY; clear hY
  (try simp only at hib)
  rw [hib] at HB; have HA := hid (fun W hW => around_any d hd h0 W hW); rw [← hcl] at HA; clear hcl; generalize aSize d = B at *; have hc1 : ((Z : Int) == (B : Int)) = false := by simp; omega
  have hc2 : (Z == B) = false := by simp; omega
  have hc3 : ¬ (Z : Int) = (B : Int) := by omega
  have HE := hid (fun W (h : RdAt W p a cap l at2 ((30 : Nat) : Int)) => end_err W p a cap l at2 30 (by decide) h Y ⟨true, Y, L, Z⟩); have H6 : Hid (∀ W, Blk W p (([.slice a (pack l).length cap, .int .i64 (l.length : Nat), .int .i64 at2, .int .u16 0] : List Value).set 3 (.int .u16 30)) 248 → RdAt W p a cap l at2 ((30 : Nat) : Int)) := hid (fun W h => h); go_wp2_with (go_at_call 129; (with_reducible refine (HO.out _).mono ?_); rintro _ _ ⟨⟨e6, rfl⟩, rfl⟩)
  refine M2.wrm [4, 8] 13 (by kernel_rfl) (by kernel_rfl) (by decide) ?_; simp only [M2.td]; with_reducible refine M2.mlq 4 (by kernel_rfl) ?_
  simp only [M2.td]; repeat (go_big_quiet_step (fail))
  with_reducible refine wpQuiet_nil ?_
  with_reducible refine M2.mixL_eff (by decide) ?_
  go_wp2_with ((go_at_call 130; (with_reducible refine (HB.out _ (by exact tabA T2.out)).mono ?_); rintro _ _ ⟨⟨e7, rfl⟩, rfl⟩))
  refine M2.MixQ.mk ovA ?_; with_reducible refine M2.mlq 3 (by kernel_rfl) ?_
  simp only [M2.td]; repeat (go_big_quiet_step (fail))
  with_reducible refine wpQuiet_nil ?_
  with_reducible refine M2.mixL_eff (by decide) ?_
  go_wp2_with ((go_at_call 132; (with_reducible refine (HA.out _ (by exact tabA T2.out)).mono ?_); rintro _ _ ⟨⟨e8, rfl⟩, rfl⟩))
  refine M2.MixQ.mk ovA ?_; with_reducible refine M2.mlq 4 (by kernel_rfl) ?_
  simp only [M2.td]; repeat (go_big_quiet_step (fail))
  with_reducible refine wpQuiet_nil ?_
  with_reducible refine M2.mln ?_
  with_reducible refine M2.mln ?_
  go_wp2_with fail
  obtain ⟨F, hF⟩ : ∃ F, F = [t5] := ⟨_, rfl⟩; have m1 : t5 ∈ F := by rw [hF]; simp
  have m3 : w2.heap.size ∉ F := by rw [hF]; simp; omega
  clear hF; refine M2.wrz (fun w' => ∃ m : Mut, w' = chg F _ m) [7, 9] 10 (by kernel_rfl) (by kernel_rfl) (by decide) (chg_of (Chg.refl _ _)) ?_; simp only [M2.td]; with_reducible refine M2.mlq 7 (by kernel_rfl) ?_
  simp only [M2.td]; repeat (go_big_quiet_step (fail))
  with_reducible refine wpQuiet_nil ?_
  with_reducible refine M2.mixL_eff (by decide) ?_
  go_wp2_with (fail)
  refine M2.MixQ.mk (chg_of (by exact chA)) ?_; with_reducible refine M2.mlq 1 (by kernel_rfl) ?_
  simp only [M2.td]; repeat (go_big_quiet_step (fail))
  with_reducible refine wpQuiet_nil ?_
  with_reducible refine M2.mixL_eff (by decide) ?_
  go_wp2_with (fail)
  refine M2.MixQ.mk (chg_of (by exact chA)) ?_; with_reducible refine M2.mln ?_
  with_reducible refine M2.mln ?_
  go_wp2_with (go_at_call 147; (with_reducible refine (HE.out _ (H6.out _ (by repeat (first | with_reducible exact H2.out | with_reducible refine Blk.alloc ?_ _ | with_reducible refine Blk.drew ?_ | with_reducible refine Blk.on ?_ _ | with_reducible refine Blk.set ?_ _ _ | ((with_reducible refine Blk.set_ne ?_ ?_ _); rotate_left; (first | (focus (simp; done)) | (focus (simp; omega)))))))).mono ?_); rintro _ _ ⟨⟨e5, rfl⟩, rfl⟩)
  (try simp only [Exit.inBlock, Exit.then])
  refine bodyPost_ret (v := ?rv49) ?rh49 rfl ?rp49
  case rh49 => (simp only [results, show Tryz.f126.results = #[.tmp 6, .tmp 7, .cell 8 109, .tmp 9] from rfl]; go_simp; rfl)
  exact ⟨(ovB O2.out), rfl⟩
theorem xget_newd (l : List Bool) (hl : l.length ≤ 800000) (a : Option Addr) (cap : Nat) (at_ : Int) (hat : -9223372036854775808 ≤ at_ ∧ at_ ≤ 9223372036854775807) (s : Vl) (hs : s.wf) (hsd : soundV s = true) (hh : s.has = true) (w : World) (hT : TabW w) (hb : SlB w a cap (pack l))
    (q1 : Nat) (hg : getN l at_ 1 = (1, q1)) (n : Int) (d L Z : Nat) (hd : d < 18446744073709551616) (h0 : d ≠ 0) (hLZ : L ≤ 64 ∧ Z ≤ 64) (hdf : ∀ p, DF l a cap p at_ s d L Z true n 0) (hib : inBand s.lead s.width d = false) (hc : L = aLead d ∧ Z = aSize d) :
    Calls Tryz.prog 126 #[bv a (pack l).length cap l.length, .int .i64 at_, s.v] w (Ret w (xgV (s.prev ^^^ d) n ⟨true, s.prev ^^^ d, L, Z⟩ 0)) := by
  have hlw := (soundV_has hsd hh).2.1; have HW := hid (fun W hW => xwrong_any (pack l) pack_lt (pkl (by omega)) l.length (by omega) a cap s hs W hW); rw [spk, hsd, show wrongX true true = 0 from rfl] at HW; have HW' : Hid (∀ W, SlB W a cap (pack l) → Calls Tryz.prog 105 #[bv a (pack l).length cap l.length, s.v] W (Ret W (.int .u16 0))) := HW; clear HW; have HG := hid (fun W hW => bget_any l (by omega) at_ hat 1 (by decide) a cap W hW); rw [hg] at HG; have HG' : Hid (∀ W, SlB W a cap (pack l) → Calls Tryz.prog 144 #[bv a (pack l).length cap l.length, .int .i64 at_, .int .i64 1] W (Ret W (.tuple #[.int .u64 (1 : Nat), .int .u16 (q1 : Nat)]))) := HG; clear HG hg; obtain ⟨has, prev, lead, width⟩ := s; simp only at hh; subst hh; have HDF := hid hdf; have HO := hid (fun W => of_any ⟨true, prev, lead, width⟩ hs W); obtain ⟨hs1, hs2, hs3⟩ := hs; clear hdf
  go_enter Tryz.func126, Tryz.ntmps126; go_wp2_with (first | (go_at_call 105; (with_reducible refine (HW'.out _ (by exact slA hb)).mono ?_); rintro _ _ ⟨⟨e3, rfl⟩, rfl⟩) | (go_at_call 144; (with_reducible refine (HG'.out _ (by exact slA hb)).mono ?_); rintro _ _ ⟨⟨e4, rfl⟩, rfl⟩))
  go_at_call 148
  have hF : ∀ i ∈ [w.heap.size + 1 + 1 + 1 + e3.heap.size], w.heap.size ≤ i := by simp; omega
  with_reducible refine (HDF.out _ _ (fun w' hc => Sl.chg_old hb (by unfold Ov; exact ovA) hc hF) (by exact blA)).mono ?_
  rintro _ w2 ⟨rfl, m2, at2, hw, hb2, hz⟩; have H2 := hid hb2; have HZ := hid hz; have O2 : Hid (∃ e, w2 = over w e) := hid (by rw [hw]; exact ovA); have B8 : Hid (Blk w2 (w.heap.size + 1 + 1) [.bool false, .int .u64 0, .int .u8 0, .int .u8 0] 109) := hid (by rw [hw]; exact (by exact blA)); have B5 : Hid (Blk w2 (w.heap.size + 1) [.bool true, .int .u64 prev, .int .u8 lead, .int .u8 width] 109) := hid (by rw [hw]; exact (by exact blA)); clear hw hb2 hz HDF hF; have n8 : ¬ (w.heap.size + 1 + 1 = w.heap.size + 1 + 1 + 1 + e3.heap.size) := by omega
  have n5 : ¬ (w.heap.size + 1 = w.heap.size + 1 + 1 + 1 + e3.heap.size) := by omega
  have q5 : w.heap.size ≤ w.heap.size + 1 := by omega
  have q8 : w.heap.size ≤ w.heap.size + 1 + 1 := by omega
  have n58 : ¬ (w.heap.size + 1 = w.heap.size + 1 + 1) := by omega
  have n85 : ¬ (w.heap.size + 1 + 1 = w.heap.size + 1) := by omega
  have qp : w.heap.size ≤ w.heap.size + 1 + 1 + 1 + e3.heap.size := by omega
  generalize w.heap.size + 1 + 1 + 1 + e3.heap.size = p at *; generalize w.heap.size + 1 + 1 = t8 at *; generalize w.heap.size + 1 = t5 at *; obtain rfl := HZ.out rfl; have H2' : Hid (RdAt w2 p a cap l at2 0) := H2; clear H2; have H2 := H2'; clear H2'; have b80 := B8.out.cell 0 rfl; have b81 := B8.out.cell 1 rfl; have b82 := B8.out.cell 2 rfl; have b83 := B8.out.cell 3 rfl; have f80 := B8.out.free 0; have f81 := B8.out.free 1; have f82 := B8.out.free 2; have f83 := B8.out.free 3; have hl8 := B8.out.lt; have b50 := B5.out.cell 0 rfl; have b51 := B5.out.cell 1 rfl; have b52 := B5.out.cell 2 rfl; have b53 := B5.out.cell 3 rfl; have f50 := B5.out.free 0; have f51 := B5.out.free 1; have f52 := B5.out.free 2; have f53 := B5.out.free 3; have hl5 := B5.out.lt; have m51 : ∀ x y, t5 < w2.heap.size + x + y := fun x y => by omega
  have m52 : ∀ x y z, t5 < w2.heap.size + x + y + z := fun x y z => by omega
  have m81 : ∀ x y, t8 < w2.heap.size + x + y := fun x y => by omega
  have m82 : ∀ x y z, t8 < w2.heap.size + x + y + z := fun x y z => by omega
  have r2 := H2.out.cell 2 rfl; have r3 := H2.out.cell 3 rfl; have r3f := H2.out.free 3; have hp := H2.out.lt; have mp1 : ∀ x y, p < w2.heap.size + x + y := fun x y => by omega
  have mp2 : ∀ x y z, p < w2.heap.size + x + y + z := fun x y z => by omega
  obtain ⟨hL, hZ⟩ := hLZ
  (try simp only at hlw)
  have T2 : Hid (TabW w2) := hid (TabW.ov hT O2.out); have HB := hid (fun W hW => has_any lead width d hd h0 hlw W hW); have hX := xor64 prev d hs1 hd; have h0' : ((d : Int) == 0) = false := by simp; omega
  obtain ⟨Y, hY⟩ : ∃ Y, prev ^^^ d = Y := ⟨_, rfl⟩; rw [hY] at hX; have HY := hid hY; clear hY
  (try simp only at hib)
  rw [hib] at HB; have HA := hid (fun W hW => around_any d hd h0 W hW); rw [← hc.1, ← hc.2] at HA; clear hc; have HE := hid (fun W (h : RdAt W p a cap l at2 0) => end_ok W p a cap l at2 h Y ⟨true, Y, L, Z⟩); go_wp2_with (go_at_call 129; (with_reducible refine (HO.out _).mono ?_); rintro _ _ ⟨⟨e6, rfl⟩, rfl⟩)
  refine M2.wrm [4, 8] 13 (by kernel_rfl) (by kernel_rfl) (by decide) ?_; simp only [M2.td]; with_reducible refine M2.mlq 4 (by kernel_rfl) ?_
  simp only [M2.td]; repeat (go_big_quiet_step (fail))
  with_reducible refine wpQuiet_nil ?_
  with_reducible refine M2.mixL_eff (by decide) ?_
  go_wp2_with ((go_at_call 130; (with_reducible refine (HB.out _ (by exact tabA T2.out)).mono ?_); rintro _ _ ⟨⟨e7, rfl⟩, rfl⟩))
  refine M2.MixQ.mk ovA ?_; with_reducible refine M2.mlq 3 (by kernel_rfl) ?_
  simp only [M2.td]; repeat (go_big_quiet_step (fail))
  with_reducible refine wpQuiet_nil ?_
  with_reducible refine M2.mixL_eff (by decide) ?_
  go_wp2_with ((go_at_call 132; (with_reducible refine (HA.out _ (by exact tabA T2.out)).mono ?_); rintro _ _ ⟨⟨e8, rfl⟩, rfl⟩))
  refine M2.MixQ.mk ovA ?_; with_reducible refine M2.mlq 4 (by kernel_rfl) ?_
  simp only [M2.td]; repeat (go_big_quiet_step (fail))
  with_reducible refine wpQuiet_nil ?_
  with_reducible refine M2.mln ?_
  with_reducible refine M2.mln ?_
  go_wp2_with fail
  obtain ⟨F, hF⟩ : ∃ F, F = [t5] := ⟨_, rfl⟩; have m1 : t5 ∈ F := by rw [hF]; simp
  have m3 : w2.heap.size ∉ F := by rw [hF]; simp; omega
  clear hF; refine M2.wrz (fun w' => ∃ m : Mut, w' = chg F _ m) [7, 9] 10 (by kernel_rfl) (by kernel_rfl) (by decide) (chg_of (Chg.refl _ _)) ?_; simp only [M2.td]; with_reducible refine M2.mlq 7 (by kernel_rfl) ?_
  simp only [M2.td]; repeat (go_big_quiet_step (fail))
  with_reducible refine wpQuiet_nil ?_
  with_reducible refine M2.mixL_eff (by decide) ?_
  go_wp2_with (fail)
  refine M2.MixQ.mk (chg_of (by exact chA)) ?_; with_reducible refine M2.mlq 1 (by kernel_rfl) ?_
  simp only [M2.td]; repeat (go_big_quiet_step (fail))
  with_reducible refine wpQuiet_nil ?_
  with_reducible refine M2.mixL_eff (by decide) ?_
  go_wp2_with (fail)
  refine M2.MixQ.mk (chg_of (by exact chA)) ?_; with_reducible refine M2.mln ?_
  with_reducible refine M2.mln ?_
  go_wp2_with (go_at_call 147; (with_reducible refine (HE.out _ (by exact rdA H2.out)).mono ?_); rintro _ _ ⟨⟨e5, rfl⟩, rfl⟩)
  (try simp only [Exit.inBlock, Exit.then])
  refine bodyPost_ret (v := ?rv50) ?rh50 rfl ?rp50
  case rh50 => (simp only [results, show Tryz.f126.results = #[.tmp 6, .tmp 7, .cell 8 109, .tmp 9] from rfl]; go_simp; rfl)
  exact ⟨(ovB O2.out), by have := HY.out; subst this; rfl⟩
end
section
open Go.RowKit
theorem tk_i {l : List Bool} (hl : l.length ≤ 900000) (a : Option Addr) (cap p : Nat) {at_ : Int} (hat : -9223372036854775808 ≤ at_ ∧ at_ ≤ 9223372036854775807) {W : Nat} (hW : W ≤ 64) {v e : Nat} (h : getN l at_ W = (v, e)) (Wi n : Int) (hi : Wi = W) (hn : n = at_ + W) : TK l a cap p at_ Wi v n e := by
 subst hi hn; exact tk_of hl a cap p hat hW h
theorem xget_yes (l : List Bool) (hl : l.length ≤ 800000) (a : Option Addr) (cap : Nat) (at_ : Int) (hat : -9223372036854775808 ≤ at_ ∧ at_ ≤ 9223372036854775807) (s : Vl) (hs : s.wf) (hsd : soundV s = true) (w : World) (hT : TabW w) (hb : SlB w a cap (pack l)) :
    Calls Tryz.prog 126 #[bv a (pack l).length cap l.length, .int .i64 at_, s.v] w (Ret w (xgV (getX l at_ s).1 (getX l at_ s).2.1 (getX l at_ s).2.2.1 (getX l at_ s).2.2.2)) := by
  have hl9 : l.length ≤ 900000 := by omega
  cases hh : s.has
  · obtain ⟨⟨v, e⟩, hg⟩ : ∃ p, getN l at_ 64 = p := ⟨_, rfl⟩; rw [getX_new hh, hg]; have h := xget_new l hl a cap at_ hat s hs hsd hh w hb _ v e hg rfl; by_cases he : e = 0
    · subst he; simp only [if_true] at h ⊢; exact h
    · obtain ⟨rfl, rfl⟩ := getN_e hg he; simp only [show ¬ (10 : Nat) = 0 by decide, if_false] at h ⊢; exact h
  obtain ⟨hl1, hl2, _⟩ := soundV_has hsd hh; obtain ⟨⟨b1, q1⟩, g1⟩ : ∃ p, getN l at_ 1 = p := ⟨_, rfl⟩; by_cases hq1 : q1 = 0
  rotate_left
  · have g1' := g1; obtain ⟨rfl, rfl⟩ := getN_e g1 hq1; rw [getX_A hh (by rw [g1]; decide)]; exact xget_e l hl a cap at_ hat s hs hsd hh w hb 0 10 g1 s.lead s.width (by omega) false (at_ + 1) 10 (by decide) (fun p W hsl hr => df_1 W p a cap l hsl at_ hr s hs hl1 hl2 (at_ + 1) 10 (tk_i hl9 a cap p hat (by decide) g1 1 (at_ + 1) rfl rfl))
  subst hq1; obtain ⟨ha0, hp1, _⟩ := getN_place g1; rcases getN_one g1 with rfl | rfl
  · rw [getX_B hh g1]; exact xget_same l hl a cap at_ hat s hs hsd hh w hb 0 g1 (at_ + 1) (fun p W hsl hr => df_1 W p a cap l hsl at_ hr s hs hl1 hl2 (at_ + 1) 0 (tk_i hl9 a cap p hat (by decide) g1 1 (at_ + 1) rfl rfl))
  have k1 := fun p => tk_i hl9 a cap p hat (by decide : 1 ≤ 64) g1 1 (at_ + 1) rfl rfl; obtain ⟨⟨b2, q2⟩, g2⟩ : ∃ p, getN l (at_ + 1) 1 = p := ⟨_, rfl⟩; have k2 := fun p => tk_i hl9 a cap p (by omega) (by decide : 1 ≤ 64) g2 1 (at_ + 2) rfl (by omega); by_cases hq2 : q2 = 0
  rotate_left
  · obtain ⟨rfl, rfl⟩ := getN_e g2 hq2; rw [getX_C1 hh g1 (by rw [g2]; decide)]; exact xget_e l hl a cap at_ hat s hs hsd hh w hb 1 0 g1 s.lead s.width (by omega) false (at_ + 2) 10 (by decide) (fun p W hsl hr => df_2e W p a cap l hsl at_ hr s hs hl1 hl2 (at_ + 1) (at_ + 2) 10 (by decide) (k1 p) (k2 p))
  subst hq2; obtain ⟨_, hp2, _⟩ := getN_place g2; rcases getN_one g2 with rfl | rfl
  · obtain ⟨⟨d0, q3⟩, g3⟩ : ∃ p, getN l (at_ + 2) s.width = p := ⟨_, rfl⟩; have k3 := fun p => tk_i hl9 a cap p (by omega) (by omega : s.width ≤ 64) g3 s.width (at_ + 2 + s.width) rfl rfl; have kd := fun p W hsl hr => df_2 W p a cap l hsl at_ hr s hs hl1 hl2 (at_ + 1) (at_ + 2) (at_ + 2 + s.width) d0 q3 (k1 p) (k2 p) (k3 p); by_cases hq3 : q3 = 0
    rotate_left
    · obtain ⟨rfl, rfl⟩ := getN_e g3 hq3; rw [getX_C2a hh g1 g2 (by rw [g3]; decide)]; have e0 : 0 <<< (64 - s.lead - s.width) % 18446744073709551616 = 0 := by simp
      rw [e0] at kd; exact xget_e l hl a cap at_ hat s hs hsd hh w hb 1 0 g1 s.lead s.width (by omega) false _ 10 (by decide) kd
    · subst hq3; rw [getX_C2b hsd hh g1 g2 g3]; have hd := shl_lt64 d0 (64 - s.lead - s.width); generalize d0 <<< (64 - s.lead - s.width) % 18446744073709551616 = d at *; by_cases h0 : d = 0
      · subst h0; rw [if_pos rfl]; exact xget_in0 l hl a cap at_ hat s hs hsd hh w hb 0 g1 _ kd
      · rw [if_neg h0]; exact xget_in l hl a cap at_ hat s hs hsd hh w hb 0 g1 _ d hd h0 kd
  obtain ⟨⟨L, q3⟩, g3⟩ : ∃ p, getN l (at_ + 2) 5 = p := ⟨_, rfl⟩; have k3 := fun p => tk_i hl9 a cap p (by omega) (by decide : 5 ≤ 64) g3 5 (at_ + 7) rfl (by omega); by_cases hq3 : q3 = 0
  rotate_left
  · obtain ⟨rfl, rfl⟩ := getN_e g3 hq3; rw [getX_C3a hh g1 g2 (by rw [g3]; decide)]; exact xget_e l hl a cap at_ hat s hs hsd hh w hb 1 0 g1 0 1 (by omega) true _ 10 (by decide) (fun p W hsl hr => df_3e W p a cap l hsl at_ hr s hs (at_ + 1) (at_ + 2) (at_ + 7) 10 (by decide) (k1 p) (k2 p) (k3 p))
  subst hq3; obtain ⟨_, hp3, hL⟩ := getN_place g3; obtain ⟨⟨S, q4⟩, g4⟩ : ∃ p, getN l (at_ + 7) 6 = p := ⟨_, rfl⟩; have k4 := fun p => tk_i hl9 a cap p (by omega) (by decide : 6 ≤ 64) g4 6 (at_ + 13) rfl (by omega); by_cases hq4 : q4 = 0
  rotate_left
  · obtain ⟨rfl, rfl⟩ := getN_e g4 hq4; rw [getX_C3b hh g1 g2 (by rw [g3]) (by rw [g4]; decide)]; exact xget_e l hl a cap at_ hat s hs hsd hh w hb 1 0 g1 L 1 (by omega) true _ 10 (by decide) (fun p W hsl hr => df_3f W p a cap l hsl at_ hr s hs (at_ + 1) (at_ + 2) (at_ + 7) (at_ + 13) L hL 10 (by decide) (k1 p) (k2 p) (k3 p) (k4 p))
  subst hq4; obtain ⟨_, hp4, hS⟩ := getN_place g4; by_cases h64 : 64 < L + (S + 1)
  · rw [getX_C3c hh g1 g2 g3 g4 h64]; exact xget_e l hl a cap at_ hat s hs hsd hh w hb 1 0 g1 L (S + 1) (by omega) true _ 30 (by decide) (fun p W hsl hr => df_3g W p a cap l hsl at_ hr s hs (at_ + 1) (at_ + 2) (at_ + 7) (at_ + 13) L S hL hS h64 (k1 p) (k2 p) (k3 p) (k4 p))
  obtain ⟨⟨d0, q5⟩, g5⟩ : ∃ p, getN l (at_ + 13) (S + 1) = p := ⟨_, rfl⟩; have k5 := fun p => tk_i hl9 a cap p (by omega) (by omega : S + 1 ≤ 64) g5 ((S : Int) + 1) (at_ + 13 + (S + 1 : Nat)) (by omega) rfl; have kd := fun p W hsl hr => df_3h W p a cap l hsl at_ hr s hs (at_ + 1) (at_ + 2) (at_ + 7) (at_ + 13) (at_ + 13 + (S + 1 : Nat)) L S d0 q5 hL hS h64 (k1 p) (k2 p) (k3 p) (k4 p) (k5 p); by_cases hq5 : q5 = 0
  rotate_left
  · obtain ⟨rfl, rfl⟩ := getN_e g5 hq5; rw [getX_C3d hh g1 g2 g3 g4 h64 (by rw [g5]; decide)]; have e0 : 0 <<< (64 - L - (S + 1)) % 18446744073709551616 = 0 := by simp
    rw [e0] at kd; exact xget_e l hl a cap at_ hat s hs hsd hh w hb 1 0 g1 L (S + 1) (by omega) true _ 10 (by decide) kd
  · subst hq5; rw [getX_C3e hh g1 g2 g3 g4 h64 g5]; have hd := shl_lt64 d0 (64 - L - (S + 1)); generalize d0 <<< (64 - L - (S + 1)) % 18446744073709551616 = d at *; by_cases h0 : d = 0
    · subst h0; rw [if_pos (.inl rfl)]; exact xget_new0 l hl a cap at_ hat s hs hsd hh w hT hb 0 g1 _ L (S + 1) (by omega) kd
    · cases hib : inBand s.lead s.width d
      · by_cases hcl : L = aLead d
        · by_cases hcs : S + 1 = aSize d
          · rw [if_neg (by rintro (h | h | h); exact h0 h; cases h; exact h ⟨hcl, hcs⟩)]; exact xget_newd l hl a cap at_ hat s hs hsd hh w hT hb 0 g1 _ d L (S + 1) hd h0 (by omega) kd hib ⟨hcl, hcs⟩
          · rw [if_pos (.inr (.inr fun h => hcs h.2))]; exact xget_newc2 l hl a cap at_ hat s hs hsd hh w hT hb 0 g1 _ d L (S + 1) hd h0 (by omega) kd hib hcl hcs
        · rw [if_pos (.inr (.inr fun h => hcl h.1))]; exact xget_newc1 l hl a cap at_ hat s hs hsd hh w hT hb 0 g1 _ d L (S + 1) hd h0 (by omega) kd hib hcl
      · rw [if_pos (.inr (.inl rfl))]; exact xget_newb l hl a cap at_ hat s hs hsd hh w hT hb 0 g1 _ d L (S + 1) hd h0 (by omega) kd hib
end
end Go.Proofs.YtnffcckhdedhpaaGreatDoor
