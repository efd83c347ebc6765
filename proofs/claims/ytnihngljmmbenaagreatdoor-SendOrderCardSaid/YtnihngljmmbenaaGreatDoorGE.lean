import Derived.Test.YtnihngljmmbenaaGreatDoorZigR
import Derived.Test.YtnihngljmmbenaaGreatDoorGD
import Derived.Test.YtnihngljmmbenaaGreatDoorGA
import Derived.WalkMore
import Derived.Test.YtnihngljmmbenaaGreatDoorGB
namespace Go.Proofs.YtnihngljmmbenaaGreatDoor
set_option linter.unusedVariables false
set_option linter.unusedSimpArgs false
section
open Go.RowKit
attribute [local go_sem] over_drew

abbrev zcs : List Value := [.int .u64 0, .int .i64 1, .int .i64 0, .int .u64 2, .int .i64 2, .int .i64 7, .int .u64 6, .int .i64 3, .int .i64 9, .int .u64 14, .int .i64 4, .int .i64 12, .int .u64 30, .int .i64 5, .int .i64 32, .int .u64 31, .int .i64 5, .int .i64 64]
theorem zcs_get {k : Nat} (hk : k ≤ 5) : zcs[k * 3]? = some (.int .u64 (zahead k : Nat)) ∧ zcs[k * 3 + 1]? = some (.int .i64 (zmany k : Nat)) ∧ zcs[k * 3 + 2]? = some (.int .i64 (zw k : Nat)) := by
  match k, hk with
  | 0, _ => exact ⟨rfl, rfl, rfl⟩
  | 1, _ => exact ⟨rfl, rfl, rfl⟩
  | 2, _ => exact ⟨rfl, rfl, rfl⟩
  | 3, _ => exact ⟨rfl, rfl, rfl⟩
  | 4, _ => exact ⟨rfl, rfl, rfl⟩
  | 5, _ => exact ⟨rfl, rfl, rfl⟩
theorem shr_zero_iff {n W : Nat} : (n : Int) / (2 : Int) ^ W = 0 ↔ n < 2 ^ W := by
  rw [cast_shr, Nat.shiftRight_eq_div_pow]
  constructor
  · intro h
    have h2 : n / 2 ^ W = 0 := by omega
    rcases Nat.div_eq_zero_iff.1 h2 with h3 | h3
    · have := Nat.two_pow_pos W; omega
    · exact h3
  · intro h
    rw [Nat.div_eq_of_lt h]; rfl

set_option maxRecDepth 100000 in
set_option maxHeartbeats 4000000 in
theorem zfirst_any (n : Nat) (hn : n < 18446744073709551616) (w : World) : Calls Tryz.prog 141 #[.int .u64 (n : Nat)] w (Ret w (.tuple #[.int .i64 (zrow n : Nat), .agg #[.int .u64 (zahead (zrow n) : Nat), .int .i64 (zmany (zrow n) : Nat), .int .i64 (zw (zrow n) : Nat)]])) := by
  have HR := hid (fun W => zrows_any W)
  have h5 := zrow_le n
  have HI := hid (fun k hk => zrow_iff (k := k) hn hk)
  generalize zrow n = R at *
  go_enter Tryz.func141, Tryz.ntmps141
  go_wp2_with fail
  go_step3
  go_wp2_with (go_at_call 166; (with_reducible refine (HR.out _).mono ?_); rintro _ _ ⟨⟨e1, rfl⟩, rfl⟩)
  go_step3
  refine gen_w ?_
  intro W7 hW7
  have O7 : Hid (∃ e, W7 = over w e) := hid (by rw [hW7]; exact ovA)
  have BZ : Hid (Blk W7 (w.heap.size + 1 + e1.heap.size) zcs 274) := hid (by rw [hW7]; exact (by exact blA))
  have B3 : Hid (Blk W7 w.heap.size [.int .u64 0, .int .i64 0, .int .i64 0] 248) := hid (by rw [hW7]; exact (by exact blA))
  clear hW7
  have hlZ := BZ.out.lt
  have hl3 := B3.out.lt
  have c30 := B3.out.cell 0 rfl
  have c31 := B3.out.cell 1 rfl
  have c32 := B3.out.cell 2 rfl
  have f30 := B3.out.free 0
  have f31 := B3.out.free 1
  have f32 := B3.out.free 2
  have hw3 : w.heap.size ≤ w.heap.size := Nat.le_refl _
  have n3Z : ¬ (w.heap.size = w.heap.size + 1 + e1.heap.size) := by omega
  have nZ3 : ¬ (w.heap.size + 1 + e1.heap.size = w.heap.size) := by omega
  generalize w.heap.size + 1 + e1.heap.size = pz at *
  have HC := hid (fun k (hk : k ≤ 5) => (⟨BZ.out.cell (k * 3) (zcs_get hk).1, BZ.out.cell (k * 3 + 1) (zcs_get hk).2.1, BZ.out.cell (k * 3 + 2) (zcs_get hk).2.2⟩ : W7.cell? ⟨pz, k * 3, none⟩ = some (.int .u64 (zahead k : Nat)) ∧ W7.cell? ⟨pz, k * 3 + 1, none⟩ = some (.int .i64 (zmany k : Nat)) ∧ W7.cell? ⟨pz, k * 3 + 2, none⟩ = some (.int .i64 (zw k : Nat))))
  go_wp2_with fail
  go_loopw [5] (fun i wr => ∃ (k : Nat), k ≤ R ∧ i = .int .i64 (k : Nat) ∧ Ov W7 wr) (fun i _ => 5 - (intOf i).toNat)
  case atStart => exact ⟨0, Nat.zero_le _, rfl, ovA⟩
  case round =>
    obtain ⟨k, hk, rfl, ⟨e, rfl⟩⟩ := hrel
    have hk5 : k ≤ 5 := by omega
    have hki : (k : Int) < 6 := by omega
    obtain ⟨k0, k1, k2⟩ := HC.out k hk5
    have hz := zw_le k
    have hI := HI.out k hk5
    generalize hW : zw k = W at *
    generalize hA : zahead k = A at *
    generalize hM : zmany k = M at *
    by_cases hlt : k < R
    · have h0 : ¬ (n : Int) / (2 : Int) ^ W = 0 := fun h => by have := hI.2 (shr_zero_iff.1 h); omega
      have hk5' : (k : Int) < 5 := by omega
      clear hI hW hA hM
      go_wp2_with fail
      go_roundw
      case rel => exact ⟨k + 1, by omega, by go_num, ovA⟩
      case measure => simp [intOf]; omega
    · obtain rfl : k = R := by omega
      obtain ⟨F, hF⟩ : ∃ F, F = [w.heap.size] := ⟨_, rfl⟩
      have m1 : w.heap.size ∈ F := by rw [hF]; simp
      have m2 : pz ∉ F := by rw [hF]; simp; omega
      clear hF
      have h0 : (n : Int) / (2 : Int) ^ W = 0 := shr_zero_iff.2 (hI.1 (Nat.le_refl _))
      have HW := hid hW
      have HA := hid hA
      have HM := hid hM
      clear hI hW hA hM
      by_cases hk5' : k < 5
      · have hk5'' : (k : Int) < 5 := by omega
        go_wp2_with fail
        refine M2.wp_region_mixZ (fun w' => ∃ m : Mut, w' = chg F _ m) [5] 6 (by kernel_rfl) (by kernel_rfl) (by decide) (chg_of (Chg.refl _ _)) ?_
        simp only [M2.td]
        with_reducible refine M2.mixL_quiet 5 (by kernel_rfl) ?_
        simp only [M2.td]
        repeat (go_big_quiet_step (fail))
        with_reducible refine wpQuiet_nil ?_
        with_reducible refine M2.mixL_eff (by decide) ?_
        go_wp2_with (fail)
        refine M2.MixQ.mk (chg_of (by exact chA)) ?_
        with_reducible refine M2.mixL_nil ?_
        with_reducible refine M2.mixL_nil ?_
        go_wp2_with fail
        rw [Exit.noGoto_ret]
        (try simp only [Exit.inBlock, Exit.then])
        refine bodyPost_ret (v := ?rv10) ?rh10 rfl ?rp10
        case rh10 => (simp only [results, show Tryz.f141.results = #[.tmp 2, .cell 3 248] from rfl]; go_simp; rfl)
        exact ⟨(ovB O7.out), by rw [HA.out, HM.out, HW.out] <;> rfl⟩
      · obtain rfl : k = 5 := by omega
        go_wp2_with fail
        refine M2.wp_region_mixZ (fun w' => ∃ m : Mut, w' = chg F _ m) [5] 6 (by kernel_rfl) (by kernel_rfl) (by decide) (chg_of (Chg.refl _ _)) ?_
        simp only [M2.td]
        with_reducible refine M2.mixL_quiet 5 (by kernel_rfl) ?_
        simp only [M2.td]
        repeat (go_big_quiet_step (fail))
        with_reducible refine wpQuiet_nil ?_
        with_reducible refine M2.mixL_eff (by decide) ?_
        go_wp2_with (fail)
        refine M2.MixQ.mk (chg_of (by exact chA)) ?_
        with_reducible refine M2.mixL_nil ?_
        with_reducible refine M2.mixL_nil ?_
        go_wp2_with fail
        rw [Exit.noGoto_ret]
        (try simp only [Exit.inBlock, Exit.then])
        refine bodyPost_ret (v := ?rv11) ?rh11 rfl ?rp11
        case rh11 => (simp only [results, show Tryz.f141.results = #[.tmp 2, .cell 3 248] from rfl]; go_simp; rfl)
        exact ⟨(ovB O7.out), by rw [HA.out, HM.out, HW.out] <;> rfl⟩
end
section
open Go.RowKit
attribute [local go_sem] over_drew

set_option maxRecDepth 100000 in
set_option maxHeartbeats 4000000 in
theorem zput_yes (l : List Bool) (hl : l.length ≤ 800000) (a : Option Addr) (cap : Nat) (v : Int) (hv : i64ok v) (w : World) (hb : SlB w a cap (pack l)) :
    Calls Tryz.prog 117 #[bv a (pack l).length cap l.length, .int .i64 v] w (PutPost w (l ++ zbits (foldZ v))) := by
  have HF := hid (fun W => zfold_any v hv W)
  have hn := foldZ_lt hv
  generalize foldZ v = n at *
  have HS := hid (fun W => zfirst_any n hn W)
  have hk := zrow_le n
  have hz : zbits n = num (zahead (zrow n)) (zmany (zrow n)) ++ num n (zw (zrow n)) := by unfold zbits; rw [zhead_num hk]
  have ha : zahead (zrow n) ≤ 31 := by
    generalize zrow n = k at *
    match k, hk with
    | 0, _ => decide
    | 1, _ => decide
    | 2, _ => decide
    | 3, _ => decide
    | 4, _ => decide
    | 5, _ => decide
  have hm : zmany (zrow n) ≤ 5 := by
    generalize zrow n = k at *
    match k, hk with
    | 0, _ => decide
    | 1, _ => decide
    | 2, _ => decide
    | 3, _ => decide
    | 4, _ => decide
    | 5, _ => decide
  have hw := zw_le (zrow n)
  rw [hz, ← List.append_assoc]
  generalize zahead (zrow n) = A at *
  generalize zmany (zrow n) = M at *
  generalize zw (zrow n) = W at *
  generalize zrow n = R at *
  clear hz
  have H1 := hid (fun W h => bput_any l (by omega) A M (by omega) (by omega) a cap W h)
  obtain ⟨L, hL⟩ : ∃ L, l ++ num A M = L := ⟨_, rfl⟩
  have hLl : L.length ≤ 900000 := by rw [← hL, List.length_append, num_length]; omega
  rw [hL] at H1 ⊢
  have H2 := hid (fun a c W0 h => bput_any L hLl n W hn hw a c W0 h)
  obtain ⟨L2, hL2⟩ : ∃ L2, L ++ num n W = L2 := ⟨_, rfl⟩
  rw [hL2] at H2 ⊢
  clear hL hL2
  go_enter Tryz.func117, Tryz.ntmps117
  go_wp2_with (first | (go_at_call 140; (with_reducible refine (HF.out _).mono ?_); rintro _ _ ⟨⟨e1, rfl⟩, rfl⟩) | (go_at_call 141; (with_reducible refine (HS.out _).mono ?_); rintro _ _ ⟨⟨e2, rfl⟩, rfl⟩) | (go_at_call 116; (with_reducible refine (H1.out _ (by exact slA hb)).mono ?_); rintro _ _ ⟨a3, c3, rfl, ⟨e3, rfl⟩, ho3⟩; have hs3 := (Own.slice' bcs_len ho3).2; clear ho3 H1) | (go_at_call 116; (with_reducible refine (H2.out _ _ _ (by exact slA hs3)).mono ?_); rintro _ _ ⟨a4, c4, rfl, ⟨e4, rfl⟩, ho4⟩; have HO4 := hid ho4; clear ho4))
  (try simp only [Exit.inBlock, Exit.then])
  refine bodyPost_ret (v := ?rv12) ?rh12 rfl ?rp12
  case rh12 => (simp only [results, show Tryz.f117.results = #[.cell 4 46, .tmp 5] from rfl]; go_simp; rfl)
  refine ⟨a4, c4, rfl, ovA, ?_⟩
  exact Own.mono (Own.over_swap HO4.out (by exact szA) (by exact szA)) (by exact szA)
end
section
open Go.RowKit
attribute [local go_sem] over_drew

/-! ### So many ones ahead. Plain. -/
abbrev whV (k : Nat) (n : Int) (e : Nat) : Value := .tuple #[.int .i64 (k : Nat), .int .i64 n, .int .u16 (e : Nat)]
end
section
open Go.RowKit
attribute [local go_sem] over_drew

abbrev zgV (p : Int × Int × Nat) : Value := .tuple #[.int .i64 p.1, .int .i64 p.2.1, .int .u16 (p.2.2 : Nat)]
end
end Go.Proofs.YtnihngljmmbenaaGreatDoor
