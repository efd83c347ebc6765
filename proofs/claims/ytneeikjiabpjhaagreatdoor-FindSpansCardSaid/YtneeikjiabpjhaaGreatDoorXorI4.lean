/- Walks: xor.Get, something being known: said anew. -/
import Derived.Test.YtneeikjiabpjhaaGreatDoorGH
namespace Go.Proofs.YtneeikjiabpjhaaGreatDoor
set_option linter.unusedVariables false
set_option linter.unusedSimpArgs false
open Go.RowKit
attribute [local go_sem] over_drew chg_drew

set_option maxRecDepth 100000 in
set_option maxHeartbeats 2000000 in
theorem xget_newb (l : List Bool) (hl : l.length ≤ 800000) (a : Option Addr) (cap : Nat) (at_ : Int) (hat : -9223372036854775808 ≤ at_ ∧ at_ ≤ 9223372036854775807) (s : Vl) (hs : s.wf) (hsd : soundV s = true) (hh : s.has = true) (w : World) (hT : TabW w) (hb : SlB w a cap (pack l))
    (q1 : Nat) (hg : getN l at_ 1 = (1, q1)) (n : Int) (d L Z : Nat) (hd : d < 18446744073709551616) (h0 : d ≠ 0) (hLZ : L ≤ 64 ∧ Z ≤ 64) (hdf : ∀ p, DF l a cap p at_ s d L Z true n 0) (hib : inBand s.lead s.width d = true) :
    Calls Tryz.prog 97 #[bv a (pack l).length cap l.length, .int .i64 at_, s.v] w (Ret w (xgV 0 0 Vl.zero 30)) := by
  have hlw := (soundV_has hsd hh).2.1
  have HW := hid (fun W hW => xwrong_any (pack l) pack_lt (pack_len_le (by omega)) l.length (by omega) a cap s hs W hW)
  rw [sound_pack, hsd, show wrongX true true = 0 from rfl] at HW
  have HW' : Hid (∀ W, SlB W a cap (pack l) → Calls Tryz.prog 93 #[bv a (pack l).length cap l.length, s.v] W (Ret W (.int .u16 0))) := HW
  clear HW
  have HG := hid (fun W hW => bget_any l (by omega) at_ hat 1 (by decide) a cap W hW)
  rw [hg] at HG
  have HG' : Hid (∀ W, SlB W a cap (pack l) → Calls Tryz.prog 112 #[bv a (pack l).length cap l.length, .int .i64 at_, .int .i64 1] W (Ret W (.tuple #[.int .u64 (1 : Nat), .int .u16 (q1 : Nat)]))) := HG
  clear HG hg
  obtain ⟨has, prev, lead, width⟩ := s
  simp only at hh
  subst hh
  have HDF := hid hdf
  have HO := hid (fun W => of_any ⟨true, prev, lead, width⟩ hs W)
  obtain ⟨hs1, hs2, hs3⟩ := hs
  clear hdf
  go_enter Tryz.func97, Tryz.ntmps97
  go_wp2_with (first | (go_at_call 93; (with_reducible refine (HW'.out _ (by exact slA hb)).mono ?_); rintro _ _ ⟨⟨e3, rfl⟩, rfl⟩) | (go_at_call 112; (with_reducible refine (HG'.out _ (by exact slA hb)).mono ?_); rintro _ _ ⟨⟨e4, rfl⟩, rfl⟩))
  go_at_call 116
  have hF : ∀ i ∈ [w.heap.size + 1 + 1 + 1 + e3.heap.size], w.heap.size ≤ i := by simp; omega
  with_reducible refine (HDF.out _ _ (fun w' hc => Sl.chg_old hb (by (try unfold Ov); exact ovA) hc hF) (by exact blA)).mono ?_
  rintro _ w2 ⟨rfl, m2, at2, hw, hb2, hz⟩
  have H2 := hid hb2
  have HZ := hid hz
  have O2 : Hid (∃ e, w2 = over w e) := hid (by rw [hw]; exact (by (try unfold Ov); exact ovA))
  have B8 : Hid (Blk w2 (w.heap.size + 1 + 1) [.bool false, .int .u64 0, .int .u8 0, .int .u8 0] 90) := hid (by rw [hw]; exact (by exact blA))
  have B5 : Hid (Blk w2 (w.heap.size + 1) [.bool true, .int .u64 prev, .int .u8 lead, .int .u8 width] 90) := hid (by rw [hw]; exact (by exact blA))
  clear hw hb2 hz HDF hF
  have n8 : ¬ (w.heap.size + 1 + 1 = w.heap.size + 1 + 1 + 1 + e3.heap.size) := by omega
  have n5 : ¬ (w.heap.size + 1 = w.heap.size + 1 + 1 + 1 + e3.heap.size) := by omega
  have q5 : w.heap.size ≤ w.heap.size + 1 := by omega
  have q8 : w.heap.size ≤ w.heap.size + 1 + 1 := by omega
  have n58 : ¬ (w.heap.size + 1 = w.heap.size + 1 + 1) := by omega
  have n85 : ¬ (w.heap.size + 1 + 1 = w.heap.size + 1) := by omega
  have qp : w.heap.size ≤ w.heap.size + 1 + 1 + 1 + e3.heap.size := by omega
  generalize w.heap.size + 1 + 1 + 1 + e3.heap.size = p at *
  generalize w.heap.size + 1 + 1 = t8 at *
  generalize w.heap.size + 1 = t5 at *
  obtain rfl := HZ.out rfl
  have H2' : Hid (RdAt w2 p a cap l at2 0) := H2
  clear H2
  have H2 := H2'
  clear H2'
  have b80 := B8.out.cell 0 rfl
  have b81 := B8.out.cell 1 rfl
  have b82 := B8.out.cell 2 rfl
  have b83 := B8.out.cell 3 rfl
  have f80 := B8.out.free 0
  have f81 := B8.out.free 1
  have f82 := B8.out.free 2
  have f83 := B8.out.free 3
  have hl8 := B8.out.lt
  have b50 := B5.out.cell 0 rfl
  have b51 := B5.out.cell 1 rfl
  have b52 := B5.out.cell 2 rfl
  have b53 := B5.out.cell 3 rfl
  have f50 := B5.out.free 0
  have f51 := B5.out.free 1
  have f52 := B5.out.free 2
  have f53 := B5.out.free 3
  have hl5 := B5.out.lt
  have m51 : ∀ x y, t5 < w2.heap.size + x + y := fun x y => by omega
  have m52 : ∀ x y z, t5 < w2.heap.size + x + y + z := fun x y z => by omega
  have m81 : ∀ x y, t8 < w2.heap.size + x + y := fun x y => by omega
  have m82 : ∀ x y z, t8 < w2.heap.size + x + y + z := fun x y z => by omega
  have r2 := H2.out.cell 2 rfl
  have r3 := H2.out.cell 3 rfl
  have r3f := H2.out.free 3
  have hp := H2.out.lt
  have mp1 : ∀ x y, p < w2.heap.size + x + y := fun x y => by omega
  have mp2 : ∀ x y z, p < w2.heap.size + x + y + z := fun x y z => by omega
  obtain ⟨hL, hZ⟩ := hLZ
  (try simp only at hlw)
  have T2 : Hid (TabW w2) := hid (TabW.ov hT O2.out)
  have HB := hid (fun W hW => has_any lead width d hd h0 hlw W hW)
  have hX := xor64 prev d hs1 hd
  have h0' : ((d : Int) == 0) = false := by simp; omega
  obtain ⟨Y, hY⟩ : ∃ Y, prev ^^^ d = Y := ⟨_, rfl⟩
  rw [hY] at hX
  have HY := hid hY
  clear hY
  (try simp only at hib)
  rw [hib] at HB
  have HE := hid (fun W (h : RdAt W p a cap l at2 ((30 : Nat) : Int)) => end_err W p a cap l at2 30 (by decide) h Y ⟨true, Y, L, Z⟩)
  have H6 : Hid (∀ W, Blk W p (([.slice a (pack l).length cap, .int .i64 (l.length : Nat), .int .i64 at2, .int .u16 0] : List Value).set 3 (.int .u16 30)) 221 → RdAt W p a cap l at2 ((30 : Nat) : Int)) := hid (fun W h => h)
  go_wp2_with (go_at_call 108; (with_reducible refine (HO.out _).mono ?_); rintro _ _ ⟨⟨e6, rfl⟩, rfl⟩)
  refine M2.wp_region_mix [4, 8] 13 (by kernel_rfl) (by kernel_rfl) (by decide) ?_
  simp only [List.take_succ_cons, List.take_zero, List.drop_succ_cons, List.drop_zero]
  with_reducible refine M2.mixL_quiet 4 (by kernel_rfl) ?_
  simp only [List.take_succ_cons, List.take_zero, List.drop_succ_cons, List.drop_zero]
  repeat (go_big_quiet_step (fail))
  with_reducible refine wpQuiet_nil ?_
  with_reducible refine M2.mixL_eff (by decide) ?_
  go_wp2_with ((first | (go_at_call 109; (with_reducible refine (HB.out _ (by exact tabA T2.out)).mono ?_); rintro _ _ ⟨⟨e7, rfl⟩, rfl⟩) | (go_at_call 111; (with_reducible refine (HA.out _ (by exact tabA T2.out)).mono ?_); rintro _ _ ⟨⟨e8, rfl⟩, rfl⟩)))
  refine M2.MixQ.mk (by (try unfold Ov); exact ovA) ?_
  with_reducible refine M2.mixL_quiet 3 (by kernel_rfl) ?_
  simp only [List.take_succ_cons, List.take_zero, List.drop_succ_cons, List.drop_zero]
  repeat (go_big_quiet_step (fail))
  with_reducible refine wpQuiet_nil ?_
  with_reducible refine M2.mixL_eff (by decide) ?_
  go_wp2_with ((first | (go_at_call 109; (with_reducible refine (HB.out _ (by exact tabA T2.out)).mono ?_); rintro _ _ ⟨⟨e7, rfl⟩, rfl⟩) | (go_at_call 111; (with_reducible refine (HA.out _ (by exact tabA T2.out)).mono ?_); rintro _ _ ⟨⟨e8, rfl⟩, rfl⟩)))
  refine M2.MixQ.mk (by (try unfold Ov); exact ovA) ?_
  with_reducible refine M2.mixL_quiet 4 (by kernel_rfl) ?_
  simp only [List.take_succ_cons, List.take_zero, List.drop_succ_cons, List.drop_zero]
  repeat (go_big_quiet_step (fail))
  with_reducible refine wpQuiet_nil ?_
  with_reducible refine M2.mixL_nil ?_
  with_reducible refine M2.mixL_nil ?_
  go_wp2_with fail
  obtain ⟨F, hF⟩ : ∃ F, F = [t5] := ⟨_, rfl⟩
  have m1 : t5 ∈ F := by rw [hF]; simp
  have m3 : w2.heap.size ∉ F := by rw [hF]; simp; omega
  clear hF
  refine M2.wp_region_mixZ (fun w' => ∃ m : Mut, w' = chg F _ m) [7, 9] 10 (by kernel_rfl) (by kernel_rfl) (by decide) (chg_of (Chg.refl _ _)) ?_
  simp only [List.take_succ_cons, List.take_zero, List.drop_succ_cons, List.drop_zero]
  with_reducible refine M2.mixL_quiet 7 (by kernel_rfl) ?_
  simp only [List.take_succ_cons, List.take_zero, List.drop_succ_cons, List.drop_zero]
  repeat (go_big_quiet_step (fail))
  with_reducible refine wpQuiet_nil ?_
  with_reducible refine M2.mixL_eff (by decide) ?_
  go_wp2_with (fail)
  refine M2.MixQ.mk (chg_of (by exact chA)) ?_
  with_reducible refine M2.mixL_quiet 1 (by kernel_rfl) ?_
  simp only [List.take_succ_cons, List.take_zero, List.drop_succ_cons, List.drop_zero]
  repeat (go_big_quiet_step (fail))
  with_reducible refine wpQuiet_nil ?_
  with_reducible refine M2.mixL_eff (by decide) ?_
  go_wp2_with (fail)
  refine M2.MixQ.mk (chg_of (by exact chA)) ?_
  with_reducible refine M2.mixL_nil ?_
  with_reducible refine M2.mixL_nil ?_
  go_wp2_with (go_at_call 115; (with_reducible refine (HE.out _ (H6.out _ (by repeat (first | with_reducible exact H2.out | with_reducible refine Blk.alloc ?_ _ | with_reducible refine Blk.drew ?_ | with_reducible refine Blk.on ?_ _ | with_reducible refine Blk.set ?_ _ _ | ((with_reducible refine Blk.set_ne ?_ ?_ _); rotate_left; (first | (focus (simp; done)) | (focus (simp; omega)))))))).mono ?_); rintro _ _ ⟨⟨e5, rfl⟩, rfl⟩)
  (try simp only [Exit.inBlock, Exit.then])
  refine bodyPost_ret (v := ?rv47) ?rh47 rfl ?rp47
  case rh47 => (simp only [results, show Tryz.f97.results = #[.tmp 6, .tmp 7, .cell 8 90, .tmp 9] from rfl]; go_simp; rfl)
  exact ⟨(by (try unfold Ov); exact ovB O2.out), rfl⟩

set_option maxRecDepth 100000 in
set_option maxHeartbeats 2000000 in
theorem xget_newc1 (l : List Bool) (hl : l.length ≤ 800000) (a : Option Addr) (cap : Nat) (at_ : Int) (hat : -9223372036854775808 ≤ at_ ∧ at_ ≤ 9223372036854775807) (s : Vl) (hs : s.wf) (hsd : soundV s = true) (hh : s.has = true) (w : World) (hT : TabW w) (hb : SlB w a cap (pack l))
    (q1 : Nat) (hg : getN l at_ 1 = (1, q1)) (n : Int) (d L Z : Nat) (hd : d < 18446744073709551616) (h0 : d ≠ 0) (hLZ : L ≤ 64 ∧ Z ≤ 64) (hdf : ∀ p, DF l a cap p at_ s d L Z true n 0) (hib : inBand s.lead s.width d = false) (hc : ¬ L = aLead d) :
    Calls Tryz.prog 97 #[bv a (pack l).length cap l.length, .int .i64 at_, s.v] w (Ret w (xgV 0 0 Vl.zero 30)) := by
  have hlw := (soundV_has hsd hh).2.1
  have HW := hid (fun W hW => xwrong_any (pack l) pack_lt (pack_len_le (by omega)) l.length (by omega) a cap s hs W hW)
  rw [sound_pack, hsd, show wrongX true true = 0 from rfl] at HW
  have HW' : Hid (∀ W, SlB W a cap (pack l) → Calls Tryz.prog 93 #[bv a (pack l).length cap l.length, s.v] W (Ret W (.int .u16 0))) := HW
  clear HW
  have HG := hid (fun W hW => bget_any l (by omega) at_ hat 1 (by decide) a cap W hW)
  rw [hg] at HG
  have HG' : Hid (∀ W, SlB W a cap (pack l) → Calls Tryz.prog 112 #[bv a (pack l).length cap l.length, .int .i64 at_, .int .i64 1] W (Ret W (.tuple #[.int .u64 (1 : Nat), .int .u16 (q1 : Nat)]))) := HG
  clear HG hg
  obtain ⟨has, prev, lead, width⟩ := s
  simp only at hh
  subst hh
  have HDF := hid hdf
  have HO := hid (fun W => of_any ⟨true, prev, lead, width⟩ hs W)
  obtain ⟨hs1, hs2, hs3⟩ := hs
  clear hdf
  go_enter Tryz.func97, Tryz.ntmps97
  go_wp2_with (first | (go_at_call 93; (with_reducible refine (HW'.out _ (by exact slA hb)).mono ?_); rintro _ _ ⟨⟨e3, rfl⟩, rfl⟩) | (go_at_call 112; (with_reducible refine (HG'.out _ (by exact slA hb)).mono ?_); rintro _ _ ⟨⟨e4, rfl⟩, rfl⟩))
  go_at_call 116
  have hF : ∀ i ∈ [w.heap.size + 1 + 1 + 1 + e3.heap.size], w.heap.size ≤ i := by simp; omega
  with_reducible refine (HDF.out _ _ (fun w' hc => Sl.chg_old hb (by (try unfold Ov); exact ovA) hc hF) (by exact blA)).mono ?_
  rintro _ w2 ⟨rfl, m2, at2, hw, hb2, hz⟩
  have H2 := hid hb2
  have HZ := hid hz
  have O2 : Hid (∃ e, w2 = over w e) := hid (by rw [hw]; exact (by (try unfold Ov); exact ovA))
  have B8 : Hid (Blk w2 (w.heap.size + 1 + 1) [.bool false, .int .u64 0, .int .u8 0, .int .u8 0] 90) := hid (by rw [hw]; exact (by exact blA))
  have B5 : Hid (Blk w2 (w.heap.size + 1) [.bool true, .int .u64 prev, .int .u8 lead, .int .u8 width] 90) := hid (by rw [hw]; exact (by exact blA))
  clear hw hb2 hz HDF hF
  have n8 : ¬ (w.heap.size + 1 + 1 = w.heap.size + 1 + 1 + 1 + e3.heap.size) := by omega
  have n5 : ¬ (w.heap.size + 1 = w.heap.size + 1 + 1 + 1 + e3.heap.size) := by omega
  have q5 : w.heap.size ≤ w.heap.size + 1 := by omega
  have q8 : w.heap.size ≤ w.heap.size + 1 + 1 := by omega
  have n58 : ¬ (w.heap.size + 1 = w.heap.size + 1 + 1) := by omega
  have n85 : ¬ (w.heap.size + 1 + 1 = w.heap.size + 1) := by omega
  have qp : w.heap.size ≤ w.heap.size + 1 + 1 + 1 + e3.heap.size := by omega
  generalize w.heap.size + 1 + 1 + 1 + e3.heap.size = p at *
  generalize w.heap.size + 1 + 1 = t8 at *
  generalize w.heap.size + 1 = t5 at *
  obtain rfl := HZ.out rfl
  have H2' : Hid (RdAt w2 p a cap l at2 0) := H2
  clear H2
  have H2 := H2'
  clear H2'
  have b80 := B8.out.cell 0 rfl
  have b81 := B8.out.cell 1 rfl
  have b82 := B8.out.cell 2 rfl
  have b83 := B8.out.cell 3 rfl
  have f80 := B8.out.free 0
  have f81 := B8.out.free 1
  have f82 := B8.out.free 2
  have f83 := B8.out.free 3
  have hl8 := B8.out.lt
  have b50 := B5.out.cell 0 rfl
  have b51 := B5.out.cell 1 rfl
  have b52 := B5.out.cell 2 rfl
  have b53 := B5.out.cell 3 rfl
  have f50 := B5.out.free 0
  have f51 := B5.out.free 1
  have f52 := B5.out.free 2
  have f53 := B5.out.free 3
  have hl5 := B5.out.lt
  have m51 : ∀ x y, t5 < w2.heap.size + x + y := fun x y => by omega
  have m52 : ∀ x y z, t5 < w2.heap.size + x + y + z := fun x y z => by omega
  have m81 : ∀ x y, t8 < w2.heap.size + x + y := fun x y => by omega
  have m82 : ∀ x y z, t8 < w2.heap.size + x + y + z := fun x y z => by omega
  have r2 := H2.out.cell 2 rfl
  have r3 := H2.out.cell 3 rfl
  have r3f := H2.out.free 3
  have hp := H2.out.lt
  have mp1 : ∀ x y, p < w2.heap.size + x + y := fun x y => by omega
  have mp2 : ∀ x y z, p < w2.heap.size + x + y + z := fun x y z => by omega
  obtain ⟨hL, hZ⟩ := hLZ
  (try simp only at hlw)
  have T2 : Hid (TabW w2) := hid (TabW.ov hT O2.out)
  have HB := hid (fun W hW => has_any lead width d hd h0 hlw W hW)
  have hX := xor64 prev d hs1 hd
  have h0' : ((d : Int) == 0) = false := by simp; omega
  obtain ⟨Y, hY⟩ : ∃ Y, prev ^^^ d = Y := ⟨_, rfl⟩
  rw [hY] at hX
  have HY := hid hY
  clear hY
  (try simp only at hib)
  rw [hib] at HB
  have HA := hid (fun W hW => around_any d hd h0 W hW)
  generalize aLead d = A at *
  generalize aSize d = B at *
  have hc1 : ((L : Int) == (A : Int)) = false := by simp; omega
  have hc2 : (L == A) = false := by simp; omega
  have hc3 : ¬ (L : Int) = (A : Int) := by omega
  have HE := hid (fun W (h : RdAt W p a cap l at2 ((30 : Nat) : Int)) => end_err W p a cap l at2 30 (by decide) h Y ⟨true, Y, L, Z⟩)
  have H6 : Hid (∀ W, Blk W p (([.slice a (pack l).length cap, .int .i64 (l.length : Nat), .int .i64 at2, .int .u16 0] : List Value).set 3 (.int .u16 30)) 221 → RdAt W p a cap l at2 ((30 : Nat) : Int)) := hid (fun W h => h)
  go_wp2_with (go_at_call 108; (with_reducible refine (HO.out _).mono ?_); rintro _ _ ⟨⟨e6, rfl⟩, rfl⟩)
  refine M2.wp_region_mix [4, 8] 13 (by kernel_rfl) (by kernel_rfl) (by decide) ?_
  simp only [List.take_succ_cons, List.take_zero, List.drop_succ_cons, List.drop_zero]
  with_reducible refine M2.mixL_quiet 4 (by kernel_rfl) ?_
  simp only [List.take_succ_cons, List.take_zero, List.drop_succ_cons, List.drop_zero]
  repeat (go_big_quiet_step (fail))
  with_reducible refine wpQuiet_nil ?_
  with_reducible refine M2.mixL_eff (by decide) ?_
  go_wp2_with ((first | (go_at_call 109; (with_reducible refine (HB.out _ (by exact tabA T2.out)).mono ?_); rintro _ _ ⟨⟨e7, rfl⟩, rfl⟩) | (go_at_call 111; (with_reducible refine (HA.out _ (by exact tabA T2.out)).mono ?_); rintro _ _ ⟨⟨e8, rfl⟩, rfl⟩)))
  refine M2.MixQ.mk (by (try unfold Ov); exact ovA) ?_
  with_reducible refine M2.mixL_quiet 3 (by kernel_rfl) ?_
  simp only [List.take_succ_cons, List.take_zero, List.drop_succ_cons, List.drop_zero]
  repeat (go_big_quiet_step (fail))
  with_reducible refine wpQuiet_nil ?_
  with_reducible refine M2.mixL_eff (by decide) ?_
  go_wp2_with ((first | (go_at_call 109; (with_reducible refine (HB.out _ (by exact tabA T2.out)).mono ?_); rintro _ _ ⟨⟨e7, rfl⟩, rfl⟩) | (go_at_call 111; (with_reducible refine (HA.out _ (by exact tabA T2.out)).mono ?_); rintro _ _ ⟨⟨e8, rfl⟩, rfl⟩)))
  refine M2.MixQ.mk (by (try unfold Ov); exact ovA) ?_
  with_reducible refine M2.mixL_quiet 4 (by kernel_rfl) ?_
  simp only [List.take_succ_cons, List.take_zero, List.drop_succ_cons, List.drop_zero]
  repeat (go_big_quiet_step (fail))
  with_reducible refine wpQuiet_nil ?_
  with_reducible refine M2.mixL_nil ?_
  with_reducible refine M2.mixL_nil ?_
  go_wp2_with fail
  obtain ⟨F, hF⟩ : ∃ F, F = [t5] := ⟨_, rfl⟩
  have m1 : t5 ∈ F := by rw [hF]; simp
  have m3 : w2.heap.size ∉ F := by rw [hF]; simp; omega
  clear hF
  refine M2.wp_region_mixZ (fun w' => ∃ m : Mut, w' = chg F _ m) [7, 9] 10 (by kernel_rfl) (by kernel_rfl) (by decide) (chg_of (Chg.refl _ _)) ?_
  simp only [List.take_succ_cons, List.take_zero, List.drop_succ_cons, List.drop_zero]
  with_reducible refine M2.mixL_quiet 7 (by kernel_rfl) ?_
  simp only [List.take_succ_cons, List.take_zero, List.drop_succ_cons, List.drop_zero]
  repeat (go_big_quiet_step (fail))
  with_reducible refine wpQuiet_nil ?_
  with_reducible refine M2.mixL_eff (by decide) ?_
  go_wp2_with (fail)
  refine M2.MixQ.mk (chg_of (by exact chA)) ?_
  with_reducible refine M2.mixL_quiet 1 (by kernel_rfl) ?_
  simp only [List.take_succ_cons, List.take_zero, List.drop_succ_cons, List.drop_zero]
  repeat (go_big_quiet_step (fail))
  with_reducible refine wpQuiet_nil ?_
  with_reducible refine M2.mixL_eff (by decide) ?_
  go_wp2_with (fail)
  refine M2.MixQ.mk (chg_of (by exact chA)) ?_
  with_reducible refine M2.mixL_nil ?_
  with_reducible refine M2.mixL_nil ?_
  go_wp2_with (go_at_call 115; (with_reducible refine (HE.out _ (H6.out _ (by repeat (first | with_reducible exact H2.out | with_reducible refine Blk.alloc ?_ _ | with_reducible refine Blk.drew ?_ | with_reducible refine Blk.on ?_ _ | with_reducible refine Blk.set ?_ _ _ | ((with_reducible refine Blk.set_ne ?_ ?_ _); rotate_left; (first | (focus (simp; done)) | (focus (simp; omega)))))))).mono ?_); rintro _ _ ⟨⟨e5, rfl⟩, rfl⟩)
  (try simp only [Exit.inBlock, Exit.then])
  refine bodyPost_ret (v := ?rv48) ?rh48 rfl ?rp48
  case rh48 => (simp only [results, show Tryz.f97.results = #[.tmp 6, .tmp 7, .cell 8 90, .tmp 9] from rfl]; go_simp; rfl)
  exact ⟨(by (try unfold Ov); exact ovB O2.out), rfl⟩

set_option maxRecDepth 100000 in
set_option maxHeartbeats 2000000 in
theorem xget_newc2 (l : List Bool) (hl : l.length ≤ 800000) (a : Option Addr) (cap : Nat) (at_ : Int) (hat : -9223372036854775808 ≤ at_ ∧ at_ ≤ 9223372036854775807) (s : Vl) (hs : s.wf) (hsd : soundV s = true) (hh : s.has = true) (w : World) (hT : TabW w) (hb : SlB w a cap (pack l))
    (q1 : Nat) (hg : getN l at_ 1 = (1, q1)) (n : Int) (d L Z : Nat) (hd : d < 18446744073709551616) (h0 : d ≠ 0) (hLZ : L ≤ 64 ∧ Z ≤ 64) (hdf : ∀ p, DF l a cap p at_ s d L Z true n 0) (hib : inBand s.lead s.width d = false) (hcl : L = aLead d) (hc : ¬ Z = aSize d) :
    Calls Tryz.prog 97 #[bv a (pack l).length cap l.length, .int .i64 at_, s.v] w (Ret w (xgV 0 0 Vl.zero 30)) := by
  have hlw := (soundV_has hsd hh).2.1
  have HW := hid (fun W hW => xwrong_any (pack l) pack_lt (pack_len_le (by omega)) l.length (by omega) a cap s hs W hW)
  rw [sound_pack, hsd, show wrongX true true = 0 from rfl] at HW
  have HW' : Hid (∀ W, SlB W a cap (pack l) → Calls Tryz.prog 93 #[bv a (pack l).length cap l.length, s.v] W (Ret W (.int .u16 0))) := HW
  clear HW
  have HG := hid (fun W hW => bget_any l (by omega) at_ hat 1 (by decide) a cap W hW)
  rw [hg] at HG
  have HG' : Hid (∀ W, SlB W a cap (pack l) → Calls Tryz.prog 112 #[bv a (pack l).length cap l.length, .int .i64 at_, .int .i64 1] W (Ret W (.tuple #[.int .u64 (1 : Nat), .int .u16 (q1 : Nat)]))) := HG
  clear HG hg
  obtain ⟨has, prev, lead, width⟩ := s
  simp only at hh
  subst hh
  have HDF := hid hdf
  have HO := hid (fun W => of_any ⟨true, prev, lead, width⟩ hs W)
  obtain ⟨hs1, hs2, hs3⟩ := hs
  clear hdf
  go_enter Tryz.func97, Tryz.ntmps97
  go_wp2_with (first | (go_at_call 93; (with_reducible refine (HW'.out _ (by exact slA hb)).mono ?_); rintro _ _ ⟨⟨e3, rfl⟩, rfl⟩) | (go_at_call 112; (with_reducible refine (HG'.out _ (by exact slA hb)).mono ?_); rintro _ _ ⟨⟨e4, rfl⟩, rfl⟩))
  go_at_call 116
  have hF : ∀ i ∈ [w.heap.size + 1 + 1 + 1 + e3.heap.size], w.heap.size ≤ i := by simp; omega
  with_reducible refine (HDF.out _ _ (fun w' hc => Sl.chg_old hb (by (try unfold Ov); exact ovA) hc hF) (by exact blA)).mono ?_
  rintro _ w2 ⟨rfl, m2, at2, hw, hb2, hz⟩
  have H2 := hid hb2
  have HZ := hid hz
  have O2 : Hid (∃ e, w2 = over w e) := hid (by rw [hw]; exact (by (try unfold Ov); exact ovA))
  have B8 : Hid (Blk w2 (w.heap.size + 1 + 1) [.bool false, .int .u64 0, .int .u8 0, .int .u8 0] 90) := hid (by rw [hw]; exact (by exact blA))
  have B5 : Hid (Blk w2 (w.heap.size + 1) [.bool true, .int .u64 prev, .int .u8 lead, .int .u8 width] 90) := hid (by rw [hw]; exact (by exact blA))
  clear hw hb2 hz HDF hF
  have n8 : ¬ (w.heap.size + 1 + 1 = w.heap.size + 1 + 1 + 1 + e3.heap.size) := by omega
  have n5 : ¬ (w.heap.size + 1 = w.heap.size + 1 + 1 + 1 + e3.heap.size) := by omega
  have q5 : w.heap.size ≤ w.heap.size + 1 := by omega
  have q8 : w.heap.size ≤ w.heap.size + 1 + 1 := by omega
  have n58 : ¬ (w.heap.size + 1 = w.heap.size + 1 + 1) := by omega
  have n85 : ¬ (w.heap.size + 1 + 1 = w.heap.size + 1) := by omega
  have qp : w.heap.size ≤ w.heap.size + 1 + 1 + 1 + e3.heap.size := by omega
  generalize w.heap.size + 1 + 1 + 1 + e3.heap.size = p at *
  generalize w.heap.size + 1 + 1 = t8 at *
  generalize w.heap.size + 1 = t5 at *
  obtain rfl := HZ.out rfl
  have H2' : Hid (RdAt w2 p a cap l at2 0) := H2
  clear H2
  have H2 := H2'
  clear H2'
  have b80 := B8.out.cell 0 rfl
  have b81 := B8.out.cell 1 rfl
  have b82 := B8.out.cell 2 rfl
  have b83 := B8.out.cell 3 rfl
  have f80 := B8.out.free 0
  have f81 := B8.out.free 1
  have f82 := B8.out.free 2
  have f83 := B8.out.free 3
  have hl8 := B8.out.lt
  have b50 := B5.out.cell 0 rfl
  have b51 := B5.out.cell 1 rfl
  have b52 := B5.out.cell 2 rfl
  have b53 := B5.out.cell 3 rfl
  have f50 := B5.out.free 0
  have f51 := B5.out.free 1
  have f52 := B5.out.free 2
  have f53 := B5.out.free 3
  have hl5 := B5.out.lt
  have m51 : ∀ x y, t5 < w2.heap.size + x + y := fun x y => by omega
  have m52 : ∀ x y z, t5 < w2.heap.size + x + y + z := fun x y z => by omega
  have m81 : ∀ x y, t8 < w2.heap.size + x + y := fun x y => by omega
  have m82 : ∀ x y z, t8 < w2.heap.size + x + y + z := fun x y z => by omega
  have r2 := H2.out.cell 2 rfl
  have r3 := H2.out.cell 3 rfl
  have r3f := H2.out.free 3
  have hp := H2.out.lt
  have mp1 : ∀ x y, p < w2.heap.size + x + y := fun x y => by omega
  have mp2 : ∀ x y z, p < w2.heap.size + x + y + z := fun x y z => by omega
  obtain ⟨hL, hZ⟩ := hLZ
  (try simp only at hlw)
  have T2 : Hid (TabW w2) := hid (TabW.ov hT O2.out)
  have HB := hid (fun W hW => has_any lead width d hd h0 hlw W hW)
  have hX := xor64 prev d hs1 hd
  have h0' : ((d : Int) == 0) = false := by simp; omega
  obtain ⟨Y, hY⟩ : ∃ Y, prev ^^^ d = Y := ⟨_, rfl⟩
  rw [hY] at hX
  have HY := hid hY
  clear hY
  (try simp only at hib)
  rw [hib] at HB
  have HA := hid (fun W hW => around_any d hd h0 W hW)
  rw [← hcl] at HA
  clear hcl
  generalize aSize d = B at *
  have hc1 : ((Z : Int) == (B : Int)) = false := by simp; omega
  have hc2 : (Z == B) = false := by simp; omega
  have hc3 : ¬ (Z : Int) = (B : Int) := by omega
  have HE := hid (fun W (h : RdAt W p a cap l at2 ((30 : Nat) : Int)) => end_err W p a cap l at2 30 (by decide) h Y ⟨true, Y, L, Z⟩)
  have H6 : Hid (∀ W, Blk W p (([.slice a (pack l).length cap, .int .i64 (l.length : Nat), .int .i64 at2, .int .u16 0] : List Value).set 3 (.int .u16 30)) 221 → RdAt W p a cap l at2 ((30 : Nat) : Int)) := hid (fun W h => h)
  go_wp2_with (go_at_call 108; (with_reducible refine (HO.out _).mono ?_); rintro _ _ ⟨⟨e6, rfl⟩, rfl⟩)
  refine M2.wp_region_mix [4, 8] 13 (by kernel_rfl) (by kernel_rfl) (by decide) ?_
  simp only [List.take_succ_cons, List.take_zero, List.drop_succ_cons, List.drop_zero]
  with_reducible refine M2.mixL_quiet 4 (by kernel_rfl) ?_
  simp only [List.take_succ_cons, List.take_zero, List.drop_succ_cons, List.drop_zero]
  repeat (go_big_quiet_step (fail))
  with_reducible refine wpQuiet_nil ?_
  with_reducible refine M2.mixL_eff (by decide) ?_
  go_wp2_with ((first | (go_at_call 109; (with_reducible refine (HB.out _ (by exact tabA T2.out)).mono ?_); rintro _ _ ⟨⟨e7, rfl⟩, rfl⟩) | (go_at_call 111; (with_reducible refine (HA.out _ (by exact tabA T2.out)).mono ?_); rintro _ _ ⟨⟨e8, rfl⟩, rfl⟩)))
  refine M2.MixQ.mk (by (try unfold Ov); exact ovA) ?_
  with_reducible refine M2.mixL_quiet 3 (by kernel_rfl) ?_
  simp only [List.take_succ_cons, List.take_zero, List.drop_succ_cons, List.drop_zero]
  repeat (go_big_quiet_step (fail))
  with_reducible refine wpQuiet_nil ?_
  with_reducible refine M2.mixL_eff (by decide) ?_
  go_wp2_with ((first | (go_at_call 109; (with_reducible refine (HB.out _ (by exact tabA T2.out)).mono ?_); rintro _ _ ⟨⟨e7, rfl⟩, rfl⟩) | (go_at_call 111; (with_reducible refine (HA.out _ (by exact tabA T2.out)).mono ?_); rintro _ _ ⟨⟨e8, rfl⟩, rfl⟩)))
  refine M2.MixQ.mk (by (try unfold Ov); exact ovA) ?_
  with_reducible refine M2.mixL_quiet 4 (by kernel_rfl) ?_
  simp only [List.take_succ_cons, List.take_zero, List.drop_succ_cons, List.drop_zero]
  repeat (go_big_quiet_step (fail))
  with_reducible refine wpQuiet_nil ?_
  with_reducible refine M2.mixL_nil ?_
  with_reducible refine M2.mixL_nil ?_
  go_wp2_with fail
  obtain ⟨F, hF⟩ : ∃ F, F = [t5] := ⟨_, rfl⟩
  have m1 : t5 ∈ F := by rw [hF]; simp
  have m3 : w2.heap.size ∉ F := by rw [hF]; simp; omega
  clear hF
  refine M2.wp_region_mixZ (fun w' => ∃ m : Mut, w' = chg F _ m) [7, 9] 10 (by kernel_rfl) (by kernel_rfl) (by decide) (chg_of (Chg.refl _ _)) ?_
  simp only [List.take_succ_cons, List.take_zero, List.drop_succ_cons, List.drop_zero]
  with_reducible refine M2.mixL_quiet 7 (by kernel_rfl) ?_
  simp only [List.take_succ_cons, List.take_zero, List.drop_succ_cons, List.drop_zero]
  repeat (go_big_quiet_step (fail))
  with_reducible refine wpQuiet_nil ?_
  with_reducible refine M2.mixL_eff (by decide) ?_
  go_wp2_with (fail)
  refine M2.MixQ.mk (chg_of (by exact chA)) ?_
  with_reducible refine M2.mixL_quiet 1 (by kernel_rfl) ?_
  simp only [List.take_succ_cons, List.take_zero, List.drop_succ_cons, List.drop_zero]
  repeat (go_big_quiet_step (fail))
  with_reducible refine wpQuiet_nil ?_
  with_reducible refine M2.mixL_eff (by decide) ?_
  go_wp2_with (fail)
  refine M2.MixQ.mk (chg_of (by exact chA)) ?_
  with_reducible refine M2.mixL_nil ?_
  with_reducible refine M2.mixL_nil ?_
  go_wp2_with (go_at_call 115; (with_reducible refine (HE.out _ (H6.out _ (by repeat (first | with_reducible exact H2.out | with_reducible refine Blk.alloc ?_ _ | with_reducible refine Blk.drew ?_ | with_reducible refine Blk.on ?_ _ | with_reducible refine Blk.set ?_ _ _ | ((with_reducible refine Blk.set_ne ?_ ?_ _); rotate_left; (first | (focus (simp; done)) | (focus (simp; omega)))))))).mono ?_); rintro _ _ ⟨⟨e5, rfl⟩, rfl⟩)
  (try simp only [Exit.inBlock, Exit.then])
  refine bodyPost_ret (v := ?rv49) ?rh49 rfl ?rp49
  case rh49 => (simp only [results, show Tryz.f97.results = #[.tmp 6, .tmp 7, .cell 8 90, .tmp 9] from rfl]; go_simp; rfl)
  exact ⟨(by (try unfold Ov); exact ovB O2.out), rfl⟩

set_option maxRecDepth 100000 in
set_option maxHeartbeats 2000000 in
theorem xget_newd (l : List Bool) (hl : l.length ≤ 800000) (a : Option Addr) (cap : Nat) (at_ : Int) (hat : -9223372036854775808 ≤ at_ ∧ at_ ≤ 9223372036854775807) (s : Vl) (hs : s.wf) (hsd : soundV s = true) (hh : s.has = true) (w : World) (hT : TabW w) (hb : SlB w a cap (pack l))
    (q1 : Nat) (hg : getN l at_ 1 = (1, q1)) (n : Int) (d L Z : Nat) (hd : d < 18446744073709551616) (h0 : d ≠ 0) (hLZ : L ≤ 64 ∧ Z ≤ 64) (hdf : ∀ p, DF l a cap p at_ s d L Z true n 0) (hib : inBand s.lead s.width d = false) (hc : L = aLead d ∧ Z = aSize d) :
    Calls Tryz.prog 97 #[bv a (pack l).length cap l.length, .int .i64 at_, s.v] w (Ret w (xgV (s.prev ^^^ d) n ⟨true, s.prev ^^^ d, L, Z⟩ 0)) := by
  have hlw := (soundV_has hsd hh).2.1
  have HW := hid (fun W hW => xwrong_any (pack l) pack_lt (pack_len_le (by omega)) l.length (by omega) a cap s hs W hW)
  rw [sound_pack, hsd, show wrongX true true = 0 from rfl] at HW
  have HW' : Hid (∀ W, SlB W a cap (pack l) → Calls Tryz.prog 93 #[bv a (pack l).length cap l.length, s.v] W (Ret W (.int .u16 0))) := HW
  clear HW
  have HG := hid (fun W hW => bget_any l (by omega) at_ hat 1 (by decide) a cap W hW)
  rw [hg] at HG
  have HG' : Hid (∀ W, SlB W a cap (pack l) → Calls Tryz.prog 112 #[bv a (pack l).length cap l.length, .int .i64 at_, .int .i64 1] W (Ret W (.tuple #[.int .u64 (1 : Nat), .int .u16 (q1 : Nat)]))) := HG
  clear HG hg
  obtain ⟨has, prev, lead, width⟩ := s
  simp only at hh
  subst hh
  have HDF := hid hdf
  have HO := hid (fun W => of_any ⟨true, prev, lead, width⟩ hs W)
  obtain ⟨hs1, hs2, hs3⟩ := hs
  clear hdf
  go_enter Tryz.func97, Tryz.ntmps97
  go_wp2_with (first | (go_at_call 93; (with_reducible refine (HW'.out _ (by exact slA hb)).mono ?_); rintro _ _ ⟨⟨e3, rfl⟩, rfl⟩) | (go_at_call 112; (with_reducible refine (HG'.out _ (by exact slA hb)).mono ?_); rintro _ _ ⟨⟨e4, rfl⟩, rfl⟩))
  go_at_call 116
  have hF : ∀ i ∈ [w.heap.size + 1 + 1 + 1 + e3.heap.size], w.heap.size ≤ i := by simp; omega
  with_reducible refine (HDF.out _ _ (fun w' hc => Sl.chg_old hb (by (try unfold Ov); exact ovA) hc hF) (by exact blA)).mono ?_
  rintro _ w2 ⟨rfl, m2, at2, hw, hb2, hz⟩
  have H2 := hid hb2
  have HZ := hid hz
  have O2 : Hid (∃ e, w2 = over w e) := hid (by rw [hw]; exact (by (try unfold Ov); exact ovA))
  have B8 : Hid (Blk w2 (w.heap.size + 1 + 1) [.bool false, .int .u64 0, .int .u8 0, .int .u8 0] 90) := hid (by rw [hw]; exact (by exact blA))
  have B5 : Hid (Blk w2 (w.heap.size + 1) [.bool true, .int .u64 prev, .int .u8 lead, .int .u8 width] 90) := hid (by rw [hw]; exact (by exact blA))
  clear hw hb2 hz HDF hF
  have n8 : ¬ (w.heap.size + 1 + 1 = w.heap.size + 1 + 1 + 1 + e3.heap.size) := by omega
  have n5 : ¬ (w.heap.size + 1 = w.heap.size + 1 + 1 + 1 + e3.heap.size) := by omega
  have q5 : w.heap.size ≤ w.heap.size + 1 := by omega
  have q8 : w.heap.size ≤ w.heap.size + 1 + 1 := by omega
  have n58 : ¬ (w.heap.size + 1 = w.heap.size + 1 + 1) := by omega
  have n85 : ¬ (w.heap.size + 1 + 1 = w.heap.size + 1) := by omega
  have qp : w.heap.size ≤ w.heap.size + 1 + 1 + 1 + e3.heap.size := by omega
  generalize w.heap.size + 1 + 1 + 1 + e3.heap.size = p at *
  generalize w.heap.size + 1 + 1 = t8 at *
  generalize w.heap.size + 1 = t5 at *
  obtain rfl := HZ.out rfl
  have H2' : Hid (RdAt w2 p a cap l at2 0) := H2
  clear H2
  have H2 := H2'
  clear H2'
  have b80 := B8.out.cell 0 rfl
  have b81 := B8.out.cell 1 rfl
  have b82 := B8.out.cell 2 rfl
  have b83 := B8.out.cell 3 rfl
  have f80 := B8.out.free 0
  have f81 := B8.out.free 1
  have f82 := B8.out.free 2
  have f83 := B8.out.free 3
  have hl8 := B8.out.lt
  have b50 := B5.out.cell 0 rfl
  have b51 := B5.out.cell 1 rfl
  have b52 := B5.out.cell 2 rfl
  have b53 := B5.out.cell 3 rfl
  have f50 := B5.out.free 0
  have f51 := B5.out.free 1
  have f52 := B5.out.free 2
  have f53 := B5.out.free 3
  have hl5 := B5.out.lt
  have m51 : ∀ x y, t5 < w2.heap.size + x + y := fun x y => by omega
  have m52 : ∀ x y z, t5 < w2.heap.size + x + y + z := fun x y z => by omega
  have m81 : ∀ x y, t8 < w2.heap.size + x + y := fun x y => by omega
  have m82 : ∀ x y z, t8 < w2.heap.size + x + y + z := fun x y z => by omega
  have r2 := H2.out.cell 2 rfl
  have r3 := H2.out.cell 3 rfl
  have r3f := H2.out.free 3
  have hp := H2.out.lt
  have mp1 : ∀ x y, p < w2.heap.size + x + y := fun x y => by omega
  have mp2 : ∀ x y z, p < w2.heap.size + x + y + z := fun x y z => by omega
  obtain ⟨hL, hZ⟩ := hLZ
  (try simp only at hlw)
  have T2 : Hid (TabW w2) := hid (TabW.ov hT O2.out)
  have HB := hid (fun W hW => has_any lead width d hd h0 hlw W hW)
  have hX := xor64 prev d hs1 hd
  have h0' : ((d : Int) == 0) = false := by simp; omega
  obtain ⟨Y, hY⟩ : ∃ Y, prev ^^^ d = Y := ⟨_, rfl⟩
  rw [hY] at hX
  have HY := hid hY
  clear hY
  (try simp only at hib)
  rw [hib] at HB
  have HA := hid (fun W hW => around_any d hd h0 W hW)
  rw [← hc.1, ← hc.2] at HA
  clear hc
  have HE := hid (fun W (h : RdAt W p a cap l at2 0) => end_ok W p a cap l at2 h Y ⟨true, Y, L, Z⟩)
  go_wp2_with (go_at_call 108; (with_reducible refine (HO.out _).mono ?_); rintro _ _ ⟨⟨e6, rfl⟩, rfl⟩)
  refine M2.wp_region_mix [4, 8] 13 (by kernel_rfl) (by kernel_rfl) (by decide) ?_
  simp only [List.take_succ_cons, List.take_zero, List.drop_succ_cons, List.drop_zero]
  with_reducible refine M2.mixL_quiet 4 (by kernel_rfl) ?_
  simp only [List.take_succ_cons, List.take_zero, List.drop_succ_cons, List.drop_zero]
  repeat (go_big_quiet_step (fail))
  with_reducible refine wpQuiet_nil ?_
  with_reducible refine M2.mixL_eff (by decide) ?_
  go_wp2_with ((first | (go_at_call 109; (with_reducible refine (HB.out _ (by exact tabA T2.out)).mono ?_); rintro _ _ ⟨⟨e7, rfl⟩, rfl⟩) | (go_at_call 111; (with_reducible refine (HA.out _ (by exact tabA T2.out)).mono ?_); rintro _ _ ⟨⟨e8, rfl⟩, rfl⟩)))
  refine M2.MixQ.mk (by (try unfold Ov); exact ovA) ?_
  with_reducible refine M2.mixL_quiet 3 (by kernel_rfl) ?_
  simp only [List.take_succ_cons, List.take_zero, List.drop_succ_cons, List.drop_zero]
  repeat (go_big_quiet_step (fail))
  with_reducible refine wpQuiet_nil ?_
  with_reducible refine M2.mixL_eff (by decide) ?_
  go_wp2_with ((first | (go_at_call 109; (with_reducible refine (HB.out _ (by exact tabA T2.out)).mono ?_); rintro _ _ ⟨⟨e7, rfl⟩, rfl⟩) | (go_at_call 111; (with_reducible refine (HA.out _ (by exact tabA T2.out)).mono ?_); rintro _ _ ⟨⟨e8, rfl⟩, rfl⟩)))
  refine M2.MixQ.mk (by (try unfold Ov); exact ovA) ?_
  with_reducible refine M2.mixL_quiet 4 (by kernel_rfl) ?_
  simp only [List.take_succ_cons, List.take_zero, List.drop_succ_cons, List.drop_zero]
  repeat (go_big_quiet_step (fail))
  with_reducible refine wpQuiet_nil ?_
  with_reducible refine M2.mixL_nil ?_
  with_reducible refine M2.mixL_nil ?_
  go_wp2_with fail
  obtain ⟨F, hF⟩ : ∃ F, F = [t5] := ⟨_, rfl⟩
  have m1 : t5 ∈ F := by rw [hF]; simp
  have m3 : w2.heap.size ∉ F := by rw [hF]; simp; omega
  clear hF
  refine M2.wp_region_mixZ (fun w' => ∃ m : Mut, w' = chg F _ m) [7, 9] 10 (by kernel_rfl) (by kernel_rfl) (by decide) (chg_of (Chg.refl _ _)) ?_
  simp only [List.take_succ_cons, List.take_zero, List.drop_succ_cons, List.drop_zero]
  with_reducible refine M2.mixL_quiet 7 (by kernel_rfl) ?_
  simp only [List.take_succ_cons, List.take_zero, List.drop_succ_cons, List.drop_zero]
  repeat (go_big_quiet_step (fail))
  with_reducible refine wpQuiet_nil ?_
  with_reducible refine M2.mixL_eff (by decide) ?_
  go_wp2_with (fail)
  refine M2.MixQ.mk (chg_of (by exact chA)) ?_
  with_reducible refine M2.mixL_quiet 1 (by kernel_rfl) ?_
  simp only [List.take_succ_cons, List.take_zero, List.drop_succ_cons, List.drop_zero]
  repeat (go_big_quiet_step (fail))
  with_reducible refine wpQuiet_nil ?_
  with_reducible refine M2.mixL_eff (by decide) ?_
  go_wp2_with (fail)
  refine M2.MixQ.mk (chg_of (by exact chA)) ?_
  with_reducible refine M2.mixL_nil ?_
  with_reducible refine M2.mixL_nil ?_
  go_wp2_with (go_at_call 115; (with_reducible refine (HE.out _ (by repeat (first | with_reducible exact H2.out | with_reducible refine Blk.alloc ?_ _ | with_reducible refine Blk.drew ?_ | with_reducible refine Blk.on ?_ _ | ((with_reducible refine Blk.chg ?_ (chg_chg _ _ _) ?_); rotate_left; (first | assumption | (focus (simp; done)) | (focus (simp; omega)))) | ((with_reducible refine Blk.set_ne ?_ ?_ _); rotate_left; (first | assumption | (focus (simp; done)) | (focus (simp; omega))))))).mono ?_); rintro _ _ ⟨⟨e5, rfl⟩, rfl⟩)
  (try simp only [Exit.inBlock, Exit.then])
  refine bodyPost_ret (v := ?rv50) ?rh50 rfl ?rp50
  case rh50 => (simp only [results, show Tryz.f97.results = #[.tmp 6, .tmp 7, .cell 8 90, .tmp 9] from rfl]; go_simp; rfl)
  exact ⟨(by (try unfold Ov); exact ovB O2.out), by have := HY.out; subst this; rfl⟩
end Go.Proofs.YtneeikjiabpjhaaGreatDoor
