/- Walks: zig's first. -/
import Derived.Test.YthljlajdkdgieaaDoorZigR
import Derived.Test.YthljlajdkdgieaaDoorZigF
import Derived.Test.YthljlajdkdgieaaDoorMemB
import Derived.WalkMore
namespace Go.Proofs.YthljlajdkdgieaaDoor
set_option linter.unusedVariables false
set_option linter.unusedSimpArgs false
open Go.RowKit
attribute [local go_sem] over_drew

abbrev zcs : List Value := [.int .u64 0, .int .i64 1, .int .i64 0, .int .u64 2, .int .i64 2, .int .i64 7, .int .u64 6, .int .i64 3, .int .i64 9, .int .u64 14, .int .i64 4, .int .i64 12, .int .u64 30, .int .i64 5, .int .i64 32, .int .u64 31, .int .i64 5, .int .i64 64]
theorem zcs_get {k : Nat} (hk : k ≤ 5) : zcs[k * 3]? = some (.int .u64 (zahead k : Nat)) ∧ zcs[k * 3 + 1]? = some (.int .i64 (zmany k : Nat)) ∧ zcs[k * 3 + 2]? = some (.int .i64 (zw k : Nat)) := by
  match k, hk with
  | 0, _ => exact ⟨rfl, rfl, rfl⟩
  | 1, _ => exact ⟨rfl, rfl, rfl⟩
  | 2, _ => exact ⟨rfl, rfl, rfl⟩
  | 3, _ => exact ⟨rfl, rfl, rfl⟩
  | 4, _ => exact ⟨rfl, rfl, rfl⟩
  | 5, _ => exact ⟨rfl, rfl, rfl⟩
theorem shr_zero_iff {n W : Nat} : (n : Int) / (2 : Int) ^ W = 0 ↔ n < 2 ^ W := by
  rw [cast_shr, Nat.shiftRight_eq_div_pow]
  constructor
  · intro h
    have h2 : n / 2 ^ W = 0 := by omega
    rcases Nat.div_eq_zero_iff.1 h2 with h3 | h3
    · have := Nat.two_pow_pos W; omega
    · exact h3
  · intro h
    rw [Nat.div_eq_of_lt h]; rfl

set_option maxRecDepth 100000 in
set_option maxHeartbeats 4000000 in
theorem zfirst_any (n : Nat) (hn : n < 18446744073709551616) (w : World) : Calls Tryd.prog 78 #[.int .u64 (n : Nat)] w (Ret w (.tuple #[.int .i64 (zrow n : Nat), .agg #[.int .u64 (zahead (zrow n) : Nat), .int .i64 (zmany (zrow n) : Nat), .int .i64 (zw (zrow n) : Nat)]])) := by
  have HR := hid (fun W => zrows_any W)
  have h5 := zrow_le n
  have HI := hid (fun k hk => zrow_iff (k := k) hn hk)
  generalize zrow n = R at *
  go_enter Tryd.func78, Tryd.ntmps78
  go_wp2_with fail
  go_step3
  go_wp2_with (go_at_call 87; (with_reducible refine (HR.out _).mono ?_); rintro _ _ ⟨⟨e1, rfl⟩, rfl⟩)
  go_step3
  refine gen_w ?_
  intro W7 hW7
  have O7 : Hid (∃ e, W7 = over w e) := hid (by rw [hW7]; exact (by (try unfold Ov); repeat (first | with_reducible exact ex_over | with_reducible exact over_self _ | with_reducible refine ex_undrew ?_ | with_reducible refine ex_into ?_ _ | with_reducible refine ex_alloc ?_ _ | with_reducible refine ex_drew ?_ | ((with_reducible refine ex_setCell ?_ ?_ _); rotate_left; (first | omega | (focus (simp; done)) | (focus (simp; omega)))) | ((with_reducible refine ex_chg ?_ _ ?_); rotate_left; (first | assumption | (exact Hid.out (by assumption)))) | exact ex_over)))
  have BZ : Hid (Blk W7 (w.heap.size + 1 + e1.heap.size) zcs 152) := hid (by rw [hW7]; exact (by repeat (first | exact Blk.new' (by simp; done) | exact Blk.new' rfl | with_reducible assumption | with_reducible refine Blk.alloc ?_ _ | with_reducible refine Blk.drew ?_ | with_reducible refine Blk.on ?_ _ | ((with_reducible refine Blk.chg ?_ (chg_chg _ _ _) ?_); rotate_left; (first | assumption | (focus (simp; done)) | (focus (simp; omega)))))))
  have B3 : Hid (Blk W7 w.heap.size [.int .u64 0, .int .i64 0, .int .i64 0] 140) := hid (by rw [hW7]; exact (by repeat (first | exact Blk.new' (by simp; done) | exact Blk.new' rfl | with_reducible assumption | with_reducible refine Blk.alloc ?_ _ | with_reducible refine Blk.drew ?_ | with_reducible refine Blk.on ?_ _ | ((with_reducible refine Blk.chg ?_ (chg_chg _ _ _) ?_); rotate_left; (first | assumption | (focus (simp; done)) | (focus (simp; omega)))))))
  clear hW7
  have hlZ := BZ.out.lt
  have hl3 := B3.out.lt
  have c30 := B3.out.cell 0 rfl
  have c31 := B3.out.cell 1 rfl
  have c32 := B3.out.cell 2 rfl
  have f30 := B3.out.free 0
  have f31 := B3.out.free 1
  have f32 := B3.out.free 2
  have hw3 : w.heap.size ≤ w.heap.size := Nat.le_refl _
  have n3Z : ¬ (w.heap.size = w.heap.size + 1 + e1.heap.size) := by omega
  have nZ3 : ¬ (w.heap.size + 1 + e1.heap.size = w.heap.size) := by omega
  generalize w.heap.size + 1 + e1.heap.size = pz at *
  have HC := hid (fun k (hk : k ≤ 5) => (⟨BZ.out.cell (k * 3) (zcs_get hk).1, BZ.out.cell (k * 3 + 1) (zcs_get hk).2.1, BZ.out.cell (k * 3 + 2) (zcs_get hk).2.2⟩ : W7.cell? ⟨pz, k * 3, none⟩ = some (.int .u64 (zahead k : Nat)) ∧ W7.cell? ⟨pz, k * 3 + 1, none⟩ = some (.int .i64 (zmany k : Nat)) ∧ W7.cell? ⟨pz, k * 3 + 2, none⟩ = some (.int .i64 (zw k : Nat))))
  go_wp2_with fail
  go_loopw [5] (fun i wr => ∃ (k : Nat), k ≤ R ∧ i = .int .i64 (k : Nat) ∧ Ov W7 wr) (fun i _ => 5 - (intOf i).toNat)
  case atStart => exact ⟨0, Nat.zero_le _, rfl, (by (try unfold Ov); repeat (first | with_reducible exact ex_over | with_reducible exact over_self _ | with_reducible refine ex_undrew ?_ | with_reducible refine ex_into ?_ _ | with_reducible refine ex_alloc ?_ _ | with_reducible refine ex_drew ?_ | ((with_reducible refine ex_setCell ?_ ?_ _); rotate_left; (first | omega | (focus (simp; done)) | (focus (simp; omega)))) | ((with_reducible refine ex_chg ?_ _ ?_); rotate_left; (first | assumption | (exact Hid.out (by assumption)))) | exact ex_over))⟩
  case round =>
    obtain ⟨k, hk, rfl, ⟨e, rfl⟩⟩ := hrel
    have hk5 : k ≤ 5 := by omega
    have hki : (k : Int) < 6 := by omega
    obtain ⟨k0, k1, k2⟩ := HC.out k hk5
    have hz := zw_le k
    have hI := HI.out k hk5
    generalize hW : zw k = W at *
    generalize hA : zahead k = A at *
    generalize hM : zmany k = M at *
    by_cases hlt : k < R
    · have h0 : ¬ (n : Int) / (2 : Int) ^ W = 0 := fun h => by have := hI.2 (shr_zero_iff.1 h); omega
      have hk5' : (k : Int) < 5 := by omega
      clear hI hW hA hM
      go_wp2_with fail
      go_roundw
      case rel => exact ⟨k + 1, by omega, by go_num, (by (try unfold Ov); repeat (first | with_reducible exact ex_over | with_reducible exact over_self _ | with_reducible refine ex_undrew ?_ | with_reducible refine ex_into ?_ _ | with_reducible refine ex_alloc ?_ _ | with_reducible refine ex_drew ?_ | ((with_reducible refine ex_setCell ?_ ?_ _); rotate_left; (first | omega | (focus (simp; done)) | (focus (simp; omega)))) | ((with_reducible refine ex_chg ?_ _ ?_); rotate_left; (first | assumption | (exact Hid.out (by assumption)))) | exact ex_over))⟩
      case measure => simp [intOf]; omega
    · obtain rfl : k = R := by omega
      obtain ⟨F, hF⟩ : ∃ F, F = [w.heap.size] := ⟨_, rfl⟩
      have m1 : w.heap.size ∈ F := by rw [hF]; simp
      have m2 : pz ∉ F := by rw [hF]; simp; omega
      clear hF
      have h0 : (n : Int) / (2 : Int) ^ W = 0 := shr_zero_iff.2 (hI.1 (Nat.le_refl _))
      have HW := hid hW
      have HA := hid hA
      have HM := hid hM
      clear hI hW hA hM
      by_cases hk5' : k < 5
      · have hk5'' : (k : Int) < 5 := by omega
        go_wp2_with fail
        refine M2.wp_region_mixZ (fun w' => ∃ m : Mut, w' = chg F _ m) [5] 6 (by kernel_rfl) (by kernel_rfl) (by decide) (chg_of (Chg.refl _ _)) ?_
        simp only [List.take_succ_cons, List.take_zero, List.drop_succ_cons, List.drop_zero]
        with_reducible refine M2.mixL_quiet 5 (by kernel_rfl) ?_
        simp only [List.take_succ_cons, List.take_zero, List.drop_succ_cons, List.drop_zero]
        repeat (go_big_quiet_step (fail))
        with_reducible refine wpQuiet_nil ?_
        with_reducible refine M2.mixL_eff (by decide) ?_
        go_wp2_with (fail)
        refine M2.MixQ.mk (chg_of (by repeat (first | with_reducible exact Chg.refl _ _ | (focus (refine ChS.chg ?_; (repeat (first | with_reducible exact ChS.refl _ _ | with_reducible refine ChS.drewl ?_ | with_reducible refine ChS.drewr ?_ | with_reducible refine ChS.over ?_ _ | with_reducible refine chS_chgs ?_ _ | ((with_reducible refine chS_set ?_ _ ?_ _); rotate_left; (first | assumption | (focus (simp; done)) | (focus (simp; assumption)))) | with_reducible refine ChS.alloc ?_ _ | ((with_reducible refine ChS.lit ?_ ?_ _ _); rotate_left; (first | assumption | (focus (simp; done)) | (focus (simp; assumption)))) | with_reducible refine ChS.alloc ?_ _)); done)) | with_reducible refine Chg.alloc ?_ _ | with_reducible refine Chg.drew ?_ | with_reducible refine Chg.on ?_ _ | ((with_reducible refine Chg.setCell ?_ ?_ _); rotate_left; (first | (focus (left; assumption)) | (focus (left; simp; done)) | (focus (right; simp; done)) | (focus (right; simp; omega)) | (focus (left; simp; omega)))) | ((with_reducible refine Chg.in_ ?_ _ ?_); rotate_left; (first | assumption | (focus (intro i hi; left; simp at hi; subst hi; assumption)) | exact fun i hi => Or.inl hi | (focus (intro i hi; left; simp [hi]; done)) | (focus (intro i hi; left; simp at hi ⊢; simp [hi]; done)) | (focus (intro i hi; simp at hi ⊢; simp [hi]; done)) | (focus (intro i hi; simp at hi ⊢; omega))))))) ?_
        with_reducible refine M2.mixL_nil ?_
        with_reducible refine M2.mixL_nil ?_
        go_wp2_with fail
        rw [Exit.noGoto_ret]
        (try simp only [Exit.inBlock, Exit.then])
        refine bodyPost_ret (v := ?rv10) ?rh10 rfl ?rp10
        case rh10 => (simp only [results, show Tryd.f78.results = #[.tmp 2, .cell 3 140] from rfl]; go_simp; rfl)
        exact ⟨(by (try unfold Ov); repeat (first | with_reducible exact O7.out | with_reducible exact O7.out | with_reducible refine ex_undrew ?_ | with_reducible refine ex_into ?_ _ | with_reducible refine ex_alloc ?_ _ | with_reducible refine ex_drew ?_ | ((with_reducible refine ex_setCell ?_ ?_ _); rotate_left; (first | omega | (focus (simp; done)) | (focus (simp; omega)))) | ((with_reducible refine ex_chg ?_ _ ?_); rotate_left; (first | assumption | (exact Hid.out (by assumption)))) | exact ex_over)), by rw [HA.out, HM.out, HW.out] <;> rfl⟩
      · obtain rfl : k = 5 := by omega
        go_wp2_with fail
        refine M2.wp_region_mixZ (fun w' => ∃ m : Mut, w' = chg F _ m) [5] 6 (by kernel_rfl) (by kernel_rfl) (by decide) (chg_of (Chg.refl _ _)) ?_
        simp only [List.take_succ_cons, List.take_zero, List.drop_succ_cons, List.drop_zero]
        with_reducible refine M2.mixL_quiet 5 (by kernel_rfl) ?_
        simp only [List.take_succ_cons, List.take_zero, List.drop_succ_cons, List.drop_zero]
        repeat (go_big_quiet_step (fail))
        with_reducible refine wpQuiet_nil ?_
        with_reducible refine M2.mixL_eff (by decide) ?_
        go_wp2_with (fail)
        refine M2.MixQ.mk (chg_of (by repeat (first | with_reducible exact Chg.refl _ _ | (focus (refine ChS.chg ?_; (repeat (first | with_reducible exact ChS.refl _ _ | with_reducible refine ChS.drewl ?_ | with_reducible refine ChS.drewr ?_ | with_reducible refine ChS.over ?_ _ | with_reducible refine chS_chgs ?_ _ | ((with_reducible refine chS_set ?_ _ ?_ _); rotate_left; (first | assumption | (focus (simp; done)) | (focus (simp; assumption)))) | with_reducible refine ChS.alloc ?_ _ | ((with_reducible refine ChS.lit ?_ ?_ _ _); rotate_left; (first | assumption | (focus (simp; done)) | (focus (simp; assumption)))) | with_reducible refine ChS.alloc ?_ _)); done)) | with_reducible refine Chg.alloc ?_ _ | with_reducible refine Chg.drew ?_ | with_reducible refine Chg.on ?_ _ | ((with_reducible refine Chg.setCell ?_ ?_ _); rotate_left; (first | (focus (left; assumption)) | (focus (left; simp; done)) | (focus (right; simp; done)) | (focus (right; simp; omega)) | (focus (left; simp; omega)))) | ((with_reducible refine Chg.in_ ?_ _ ?_); rotate_left; (first | assumption | (focus (intro i hi; left; simp at hi; subst hi; assumption)) | exact fun i hi => Or.inl hi | (focus (intro i hi; left; simp [hi]; done)) | (focus (intro i hi; left; simp at hi ⊢; simp [hi]; done)) | (focus (intro i hi; simp at hi ⊢; simp [hi]; done)) | (focus (intro i hi; simp at hi ⊢; omega))))))) ?_
        with_reducible refine M2.mixL_nil ?_
        with_reducible refine M2.mixL_nil ?_
        go_wp2_with fail
        rw [Exit.noGoto_ret]
        (try simp only [Exit.inBlock, Exit.then])
        refine bodyPost_ret (v := ?rv11) ?rh11 rfl ?rp11
        case rh11 => (simp only [results, show Tryd.f78.results = #[.tmp 2, .cell 3 140] from rfl]; go_simp; rfl)
        exact ⟨(by (try unfold Ov); repeat (first | with_reducible exact O7.out | with_reducible exact O7.out | with_reducible refine ex_undrew ?_ | with_reducible refine ex_into ?_ _ | with_reducible refine ex_alloc ?_ _ | with_reducible refine ex_drew ?_ | ((with_reducible refine ex_setCell ?_ ?_ _); rotate_left; (first | omega | (focus (simp; done)) | (focus (simp; omega)))) | ((with_reducible refine ex_chg ?_ _ ?_); rotate_left; (first | assumption | (exact Hid.out (by assumption)))) | exact ex_over)), by rw [HA.out, HM.out, HW.out] <;> rfl⟩
end Go.Proofs.YthljlajdkdgieaaDoor
