import Derived.Test.YtnffcckhdedhpaaGreatDoorZigR
import Derived.Test.YtnffcckhdedhpaaGreatDoorGD
import Derived.Test.YtnffcckhdedhpaaGreatDoorGA
import Derived.WalkMore
import Derived.Test.YtnffcckhdedhpaaGreatDoorGB
namespace Go.Proofs.YtnffcckhdedhpaaGreatDoor
set_option linter.unusedVariables false
set_option linter.unusedSimpArgs false
set_option maxRecDepth 100000
set_option maxHeartbeats 4000000
section
open Go.RowKit
attribute [local go_sem] odr
abbrev zcs : List Value := [.int .u64 0, .int .i64 1, .int .i64 0, .int .u64 2, .int .i64 2, .int .i64 7, .int .u64 6, .int .i64 3, .int .i64 9, .int .u64 14, .int .i64 4, .int .i64 12, .int .u64 30, .int .i64 5, .int .i64 32, .int .u64 31, .int .i64 5, .int .i64 64]
theorem zcs_get {k : Nat} (hk : k ≤ 5) : zcs[k * 3]? = some (.int .u64 (zahead k : Nat)) ∧ zcs[k * 3 + 1]? = some (.int .i64 (zmany k : Nat)) ∧ zcs[k * 3 + 2]? = some (.int .i64 (zw k : Nat)) := by
 match k, hk with
 | 0, _ => exact ⟨rfl, rfl, rfl⟩
 | 1, _ => exact ⟨rfl, rfl, rfl⟩
 | 2, _ => exact ⟨rfl, rfl, rfl⟩
 | 3, _ => exact ⟨rfl, rfl, rfl⟩
 | 4, _ => exact ⟨rfl, rfl, rfl⟩
 | 5, _ => exact ⟨rfl, rfl, rfl⟩
theorem shr_zero_iff {n W : Nat} : (n : Int) / (2 : Int) ^ W = 0 ↔ n < 2 ^ W := by
 rw [cast_shr, Nat.shiftRight_eq_div_pow]
 constructor
 · intro h; have h2 : n / 2 ^ W = 0 := by omega
   rcases Nat.div_eq_zero_iff.1 h2 with h3 | h3
   · have := Nat.two_pow_pos W; omega
   · exact h3
 · intro h; rw [Nat.div_eq_of_lt h]; rfl
theorem zfirst_any (n : Nat) (hn : n < 18446744073709551616) (w : World) : Calls Tryz.prog 104 #[.int .u64 (n : Nat)] w (Ret w (.tuple #[.int .i64 (zrow n : Nat), .agg #[.int .u64 (zahead (zrow n) : Nat), .int .i64 (zmany (zrow n) : Nat), .int .i64 (zw (zrow n) : Nat)]])) := by
 have HR := hid (fun W => zrows_any W); have h5 := zrow_le n; have HI := hid (fun k hk => zrow_iff (k := k) hn hk); generalize zrow n = R at *
 go_enter Tryz.func104, Tryz.ntmps104; go_wp2_with fail
 go_step3
 go_wp2_with (go_at_call 128; (with_reducible refine (HR.out _).mono ?_); rintro _ _ ⟨⟨e1, rfl⟩, rfl⟩)
 go_step3
 refine gen_w ?_; intro W7 hW7; have O7 : Hid (∃ e, W7 = over w e) := hid (by rw [hW7]; exact ovA); have BZ : Hid (Blk W7 (w.heap.size + 1 + e1.heap.size) zcs 224) := hid (by rw [hW7]; exact (by exact blA)); have B3 : Hid (Blk W7 w.heap.size [.int .u64 0, .int .i64 0, .int .i64 0] 196) := hid (by rw [hW7]; exact (by exact blA)); clear hW7; have hlZ := BZ.out.lt; have hl3 := B3.out.lt; have c30 := B3.out.cell 0 rfl; have c31 := B3.out.cell 1 rfl; have c32 := B3.out.cell 2 rfl; have f30 := B3.out.free 0; have f31 := B3.out.free 1; have f32 := B3.out.free 2; have hw3 : w.heap.size ≤ w.heap.size := Nat.le_refl _; have n3Z : ¬ (w.heap.size = w.heap.size + 1 + e1.heap.size) := by omega
 have nZ3 : ¬ (w.heap.size + 1 + e1.heap.size = w.heap.size) := by omega
 generalize w.heap.size + 1 + e1.heap.size = pz at *; have HC := hid (fun k (hk : k ≤ 5) => (⟨BZ.out.cell (k * 3) (zcs_get hk).1, BZ.out.cell (k * 3 + 1) (zcs_get hk).2.1, BZ.out.cell (k * 3 + 2) (zcs_get hk).2.2⟩ : W7.cell? ⟨pz, k * 3, none⟩ = some (.int .u64 (zahead k : Nat)) ∧ W7.cell? ⟨pz, k * 3 + 1, none⟩ = some (.int .i64 (zmany k : Nat)) ∧ W7.cell? ⟨pz, k * 3 + 2, none⟩ = some (.int .i64 (zw k : Nat)))); go_wp2_with fail
 go_loopw [5] (fun i wr => ∃ (k : Nat), k ≤ R ∧ i = .int .i64 (k : Nat) ∧ Ov W7 wr) (fun i _ => 5 - (intOf i).toNat)
 case atStart => exact ⟨0, Nat.zero_le _, rfl, ovA⟩
 case round =>
  obtain ⟨k, hk, rfl, ⟨e, rfl⟩⟩ := hrel; have hk5 : k ≤ 5 := by omega
  have hki : (k : Int) < 6 := by omega
  obtain ⟨k0, k1, k2⟩ := HC.out k hk5; have hz := zw_le k; have hI := HI.out k hk5; generalize hW : zw k = W at *; generalize hA : zahead k = A at *; generalize hM : zmany k = M at *; by_cases hlt : k < R
  · have h0 : ¬ (n : Int) / (2 : Int) ^ W = 0 := fun h => by have := hI.2 (shr_zero_iff.1 h); omega
    have hk5' : (k : Int) < 5 := by omega
    clear hI hW hA hM; go_wp2_with fail
    go_roundw
    case rel => exact ⟨k + 1, by omega, by go_num, ovA⟩
    case measure => simp [intOf]; omega
  · obtain rfl : k = R := by omega
    obtain ⟨F, hF⟩ : ∃ F, F = [w.heap.size] := ⟨_, rfl⟩; have m1 : w.heap.size ∈ F := by rw [hF]; simp
    have m2 : pz ∉ F := by rw [hF]; simp; omega
    clear hF; have h0 : (n : Int) / (2 : Int) ^ W = 0 := shr_zero_iff.2 (hI.1 (Nat.le_refl _)); have HW := hid hW; have HA := hid hA; have HM := hid hM; clear hI hW hA hM; by_cases hk5' : k < 5
    · have hk5'' : (k : Int) < 5 := by omega
      go_wp2_with fail
      refine M2.wrz (fun w' => ∃ m : Mut, w' = chg F _ m) [5] 6 (by kernel_rfl) (by kernel_rfl) (by decide) (chg_of (Chg.refl _ _)) ?_; simp only [M2.td]; with_reducible refine M2.mlq 5 (by kernel_rfl) ?_
      simp only [M2.td]; repeat (go_big_quiet_step (fail))
      with_reducible refine wpQuiet_nil ?_
      with_reducible refine M2.mixL_eff (by decide) ?_
      go_wp2_with (fail)
      refine M2.MixQ.mk (chg_of (by exact chA)) ?_; with_reducible refine M2.mln ?_
      with_reducible refine M2.mln ?_
      go_wp2_with fail
      rw [Exit.noGoto_ret]
      (try simp only [Exit.inBlock, Exit.then])
      refine bodyPost_ret (v := ?rv10) ?rh10 rfl ?rp10
      case rh10 => (simp only [results, show Tryz.f104.results = #[.tmp 2, .cell 3 196] from rfl]; go_simp; rfl)
      exact ⟨(ovB O7.out), by rw [HA.out, HM.out, HW.out] <;> rfl⟩
    · obtain rfl : k = 5 := by omega
      go_wp2_with fail
      refine M2.wrz (fun w' => ∃ m : Mut, w' = chg F _ m) [5] 6 (by kernel_rfl) (by kernel_rfl) (by decide) (chg_of (Chg.refl _ _)) ?_; simp only [M2.td]; with_reducible refine M2.mlq 5 (by kernel_rfl) ?_
      simp only [M2.td]; repeat (go_big_quiet_step (fail))
      with_reducible refine wpQuiet_nil ?_
      with_reducible refine M2.mixL_eff (by decide) ?_
      go_wp2_with (fail)
      refine M2.MixQ.mk (chg_of (by exact chA)) ?_; with_reducible refine M2.mln ?_
      with_reducible refine M2.mln ?_
      go_wp2_with fail
      rw [Exit.noGoto_ret]
      (try simp only [Exit.inBlock, Exit.then])
      refine bodyPost_ret (v := ?rv11) ?rh11 rfl ?rp11
      case rh11 => (simp only [results, show Tryz.f104.results = #[.tmp 2, .cell 3 196] from rfl]; go_simp; rfl)
      exact ⟨(ovB O7.out), by rw [HA.out, HM.out, HW.out] <;> rfl⟩
end
section
open Go.RowKit
attribute [local go_sem] odr
theorem zput_yes (l : List Bool) (hl : l.length ≤ 800000) (a : Option Addr) (cap : Nat) (v : Int) (hv : i64ok v) (w : World) (hb : SlB w a cap (pack l)) :
    Calls Tryz.prog 78 #[bv a (pack l).length cap l.length, .int .i64 v] w (PutPost w (l ++ zbits (foldZ v))) := by
  have HF := hid (fun W => zfold_any v hv W); have hn := foldZ_lt hv; generalize foldZ v = n at *; have HS := hid (fun W => zfirst_any n hn W); have hk := zrow_le n; have hz : zbits n = num (zahead (zrow n)) (zmany (zrow n)) ++ num n (zw (zrow n)) := by unfold zbits; rw [zhead_num hk]
  have ha : zahead (zrow n) ≤ 31 := by
   generalize zrow n = k at *
   match k, hk with
   | 0, _ => decide
   | 1, _ => decide
   | 2, _ => decide
   | 3, _ => decide
   | 4, _ => decide
   | 5, _ => decide
  have hm : zmany (zrow n) ≤ 5 := by
   generalize zrow n = k at *
   match k, hk with
   | 0, _ => decide
   | 1, _ => decide
   | 2, _ => decide
   | 3, _ => decide
   | 4, _ => decide
   | 5, _ => decide
  have hw := zw_le (zrow n); rw [hz, ← List.append_assoc]; generalize zahead (zrow n) = A at *; generalize zmany (zrow n) = M at *; generalize zw (zrow n) = W at *; generalize zrow n = R at *; clear hz; have H1 := hid (fun W h => bput_any l (by omega) A M (by omega) (by omega) a cap W h); obtain ⟨L, hL⟩ : ∃ L, l ++ num A M = L := ⟨_, rfl⟩; have hLl : L.length ≤ 900000 := by rw [← hL, List.length_append, nml]; omega
  rw [hL] at H1 ⊢; have H2 := hid (fun a c W0 h => bput_any L hLl n W hn hw a c W0 h); obtain ⟨L2, hL2⟩ : ∃ L2, L ++ num n W = L2 := ⟨_, rfl⟩; rw [hL2] at H2 ⊢; clear hL hL2
  go_enter Tryz.func78, Tryz.ntmps78; go_wp2_with (first | (go_at_call 103; (with_reducible refine (HF.out _).mono ?_); rintro _ _ ⟨⟨e1, rfl⟩, rfl⟩) | (go_at_call 104; (with_reducible refine (HS.out _).mono ?_); rintro _ _ ⟨⟨e2, rfl⟩, rfl⟩) | (go_at_call 61; (with_reducible refine (H1.out _ (by exact slA hb)).mono ?_); rintro _ _ ⟨a3, c3, rfl, ⟨e3, rfl⟩, ho3⟩; have hs3 := (Own.slice' bcs_len ho3).2; clear ho3 H1) | (go_at_call 61; (with_reducible refine (H2.out _ _ _ (by exact slA hs3)).mono ?_); rintro _ _ ⟨a4, c4, rfl, ⟨e4, rfl⟩, ho4⟩; have HO4 := hid ho4; clear ho4))
  (try simp only [Exit.inBlock, Exit.then])
  refine bodyPost_ret (v := ?rv12) ?rh12 rfl ?rp12
  case rh12 => (simp only [results, show Tryz.f78.results = #[.cell 4 49, .tmp 5] from rfl]; go_simp; rfl)
  refine ⟨a4, c4, rfl, ovA, ?_⟩; exact Own.mono (Own.ovw HO4.out (by exact szA) (by exact szA)) (by exact szA)
end
section
open Go.RowKit
attribute [local go_sem] odr
/-! ### So many ones ahead. Plain. -/
theorem ones_spec (l : List Bool) (i : Nat) : (∀ j, j < ones (l.drop i) 5 → i + j < l.length ∧ l.getD (i + j) false = true) ∧ (ones (l.drop i) 5 < 5 → i + ones (l.drop i) 5 < l.length → l.getD (i + ones (l.drop i) 5) false = false) ∧ ones (l.drop i) 5 ≤ 5 ∧ (i ≤ l.length → i + ones (l.drop i) 5 ≤ l.length) := by
 have h1 := ones_le (l.drop i) 5; have h2 := ones_take (l.drop i) 5; have h3 := ones_stop (l.drop i) 5; have hd : ∀ j, (l.drop i).getD j false = l.getD (i + j) false := fun j => by simp only [List.getD_eq_getElem?_getD, List.getElem?_drop]
 rw [List.length_drop] at h1 h3; refine ⟨fun j hj => ⟨by omega, ?_⟩, fun h5 hl => ?_, h1.1, fun h => by omega⟩
 · rw [← hd j]; have : ((l.drop i).take (ones (l.drop i) 5)).getD j false = (List.replicate (ones (l.drop i) 5) true).getD j false := by rw [h2]
   simp only [List.getD_eq_getElem?_getD] at this ⊢; rw [List.getElem?_take, if_pos hj, List.getElem?_replicate, if_pos hj] at this; exact this
 · rw [← hd]; exact h3 h5 (by omega)
theorem getN_bit {l : List Bool} {i : Nat} (h : i < l.length) : getN l i 1 = ((l.getD i false).toNat, 0) := by
 unfold getN; rw [if_pos (by omega), Int.toNat_natCast]; have : (l.drop i).take 1 = [l[i]] := by rw [List.drop_eq_getElem_cons h]; rfl
 rw [this, getD_getElem h]; cases l[i] <;> rfl
theorem getN_out {l : List Bool} {at_ : Int} {W : Nat} (h : ¬ (0 ≤ at_ ∧ at_ + W ≤ l.length)) : getN l at_ W = (0, 10) := by unfold getN; rw [if_neg h]
abbrev whV (k : Nat) (n : Int) (e : Nat) : Value := .tuple #[.int .i64 (k : Nat), .int .i64 n, .int .u16 (e : Nat)]
abbrev BG (l : List Bool) (a : Option Addr) (cap : Nat) (at_ : Int) (W : Int) (v e : Int) : Prop := ∀ w, SlB w a cap (pack l) → Calls Tryz.prog 144 #[bv a (pack l).length cap l.length, .int .i64 at_, .int .i64 W] w (Ret w (.tuple #[.int .u64 v, .int .u16 e]))
theorem bg_of {l : List Bool} (hl : l.length ≤ 900000) (a : Option Addr) (cap : Nat) {at_ : Int} (hat : -9223372036854775808 ≤ at_ ∧ at_ ≤ 9223372036854775807) {W : Nat} (hW : W ≤ 64) {v e : Nat} (h : getN l at_ W = (v, e)) (Wi vi ei : Int) (hi : Wi = W) (hv : vi = v) (he : ei = e) : BG l a cap at_ Wi vi ei := fun w hw => by
 subst hi hv he; have := bget_any l hl at_ hat W hW a cap w hw; rw [h] at this; exact this
theorem which_far (l : List Bool) (hl : l.length ≤ 800000) (a : Option Addr) (cap : Nat) (at_ : Int) (hat : -9223372036854775808 ≤ at_ ∧ at_ ≤ 9223372036854775807) (h : at_ < 0 ∨ l.length < at_) (w : World) (hb : SlB w a cap (pack l)) :
    Calls Tryz.prog 158 #[bv a (pack l).length cap l.length, .int .i64 at_] w (Ret w (whV 0 0 10)) := by
  have H1 := hid (bg_of (by omega) a cap hat (by decide : 1 ≤ 64) (getN_out (l := l) (at_ := at_) (W := 1) (by omega)) 1 0 10 rfl rfl rfl); clear h hat
  go_enter Tryz.func158, Tryz.ntmps158; go_wp2
  go_loopw [1, 10] (fun q i wr => q = .int .i64 at_ ∧ i = .int .i64 0 ∧ Ov (w.alloc (.cells #[.slice a (pack l).length cap, .int .i64 l.length] 49)) wr) (fun _ i _ => 0)
  case atStart => exact ⟨rfl, rfl, ovA⟩
  case round =>
   obtain ⟨rfl, rfl, ⟨e, rfl⟩⟩ := hrel; go_wp2_with (go_at_call 144; (with_reducible refine (H1.out _ (by exact slA hb)).mono ?_); rintro _ _ ⟨⟨e1, rfl⟩, rfl⟩)
   (try simp only [Exit.inBlock, Exit.then])
   refine bodyPost_ret (v := ?rv21) ?rh21 rfl ?rp21
   case rh21 => (simp only [results, show Tryz.f158.results = #[.tmp 4, .tmp 5, .tmp 6] from rfl]; go_simp; rfl)
   exact ⟨ovA, rfl⟩
theorem which_in (l : List Bool) (hl : l.length ≤ 800000) (a : Option Addr) (cap : Nat) (i : Nat) (hi : i ≤ l.length) (w : World) (hb : SlB w a cap (pack l)) :
    Calls Tryz.prog 158 #[bv a (pack l).length cap l.length, .int .i64 (i : Nat)] w (Ret w (if ones (l.drop i) 5 < 5 ∧ l.length ≤ i + ones (l.drop i) 5 then whV 0 0 10 else whV (ones (l.drop i) 5) ((i + (zhead (ones (l.drop i) 5)).length : Nat) : Int) 0)) := by
  obtain ⟨s1, s2, s3, s4⟩ := ones_spec l i; have s4 := s4 hi; have hzl := zhead_len s3; obtain ⟨res, hres⟩ : ∃ res, (if ones (l.drop i) 5 < 5 ∧ l.length ≤ i + ones (l.drop i) 5 then whV 0 0 10 else whV (ones (l.drop i) 5) ((i + (zhead (ones (l.drop i) 5)).length : Nat) : Int) 0) = res := ⟨_, rfl⟩; rw [hres]; rw [hzl] at hres; generalize ones (l.drop i) 5 = K at *; have HRES := hid hres; have S1 := hid s1; have S2 := hid s2; clear hres s1 s2 hzl
  go_enter Tryz.func158, Tryz.ntmps158; go_wp2
  go_loopw [1, 10] (fun at_ k wr => ∃ (j : Nat), j ≤ K ∧ k = .int .i64 (j : Nat) ∧ at_ = .int .i64 ((i + j : Nat) : Int) ∧ Ov (w.alloc (.cells #[.slice a (pack l).length cap, .int .i64 l.length] 49)) wr) (fun _ k _ => 5 - (intOf k).toNat)
  case atStart => exact ⟨0, Nat.zero_le _, rfl, rfl, ovA⟩
  case round =>
   obtain ⟨j, hj, rfl, rfl, ⟨e, rfl⟩⟩ := hrel; obtain ⟨J, hJ⟩ : ∃ J, i + j = J := ⟨_, rfl⟩; have hJm : J ≤ 900000 := by omega
   by_cases hlt : j < K
   · obtain ⟨b1, b2⟩ := S1.out j hlt; have H1 := hid (bg_of (by omega) a cap (at_ := ((i + j : Nat) : Int)) (by omega) (by decide : 1 ≤ 64) (getN_bit b1) 1 1 0 rfl (by rw [b2]; rfl) rfl); rw [hJ] at H1 ⊢; have hj5 : (j : Int) < 5 := by omega
     have hJj : J + 1 = i + (j + 1) := by omega
     clear b1 b2 hJ; go_wp2_with (go_at_call 144; (with_reducible refine (H1.out _ (by exact slA hb)).mono ?_); rintro _ _ ⟨⟨e1, rfl⟩, rfl⟩)
     go_roundw
     case rel => exact ⟨j + 1, by omega, by go_num, by rw [← hJj]; go_num, ovA⟩
     case measure => simp [intOf]; omega
   · obtain rfl : j = K := by omega
     by_cases h5 : j < 5
     · have hj5 : (j : Int) < 5 := by omega
       by_cases hin : i + j < l.length
       · have b2 := S2.out h5 hin; have H1 := hid (bg_of (by omega) a cap (at_ := ((i + j : Nat) : Int)) (by omega) (by decide : 1 ≤ 64) (getN_bit hin) 1 0 0 rfl (by rw [b2]; rfl) rfl); have hN := hid (show res = whV j ((J + 1 : Nat) : Int) 0 by rw [← HRES.out, if_neg (by omega), show i + min (j + 1) 5 = J + 1 by omega]); rw [hJ] at H1 ⊢; clear b2 hin hJ; go_wp2_with (go_at_call 144; (with_reducible refine (H1.out _ (by exact slA hb)).mono ?_); rintro _ _ ⟨⟨e1, rfl⟩, rfl⟩)
         (try simp only [Exit.inBlock, Exit.then])
         refine bodyPost_ret (v := ?rv22) ?rh22 rfl ?rp22
         case rh22 => (simp only [results, show Tryz.f158.results = #[.tmp 4, .tmp 5, .tmp 6] from rfl]; go_simp; rfl)
         exact ⟨ovA, by rw [hN.out]; rfl⟩
       · have H1 := hid (bg_of (by omega) a cap (at_ := ((i + j : Nat) : Int)) (by omega) (by decide : 1 ≤ 64) (getN_out (l := l) (at_ := ((i + j : Nat) : Int)) (W := 1) (by omega)) 1 0 10 rfl rfl rfl); have hN := hid (show res = whV 0 0 10 by rw [← HRES.out, if_pos (by omega)]); rw [hJ] at H1 ⊢; clear hin hJ; go_wp2_with (go_at_call 144; (with_reducible refine (H1.out _ (by exact slA hb)).mono ?_); rintro _ _ ⟨⟨e1, rfl⟩, rfl⟩)
         (try simp only [Exit.inBlock, Exit.then])
         refine bodyPost_ret (v := ?rv23) ?rh23 rfl ?rp23
         case rh23 => (simp only [results, show Tryz.f158.results = #[.tmp 4, .tmp 5, .tmp 6] from rfl]; go_simp; rfl)
         exact ⟨ovA, by rw [hN.out]; rfl⟩
     · obtain rfl : j = 5 := by omega
       have hN := hid (show res = whV 5 (J : Nat) 0 by rw [← HRES.out, if_neg (by omega), show i + min (5 + 1) 5 = J by omega]); rw [hJ]; clear hJ; go_wp2
       (try simp only [Exit.inBlock, Exit.then])
       refine bodyPost_ret (v := ?rv24) ?rh24 rfl ?rp24
       case rh24 => (simp only [results, show Tryz.f158.results = #[.tmp 4, .tmp 5, .tmp 6] from rfl]; go_simp; rfl)
       exact ⟨ovA, by rw [hN.out]; rfl⟩
end
section
open Go.RowKit
attribute [local go_sem] odr
abbrev zgV (p : Int × Int × Nat) : Value := .tuple #[.int .i64 p.1, .int .i64 p.2.1, .int .u16 (p.2.2 : Nat)]
theorem zget_no (l : List Bool) (a : Option Addr) (cap : Nat) (at_ : Int) (w : World) (hb : SlB w a cap (pack l)) (H : ∀ W, SlB W a cap (pack l) → Calls Tryz.prog 158 #[bv a (pack l).length cap l.length, .int .i64 at_] W (Ret W (whV 0 0 10))) :
    Calls Tryz.prog 145 #[bv a (pack l).length cap l.length, .int .i64 at_] w (Ret w (zgV (0, 0, 10))) := by
  have H1 : Hid (∀ W, SlB W a cap (pack l) → Calls Tryz.prog 158 #[bv a (pack l).length cap l.length, .int .i64 at_] W (Ret W (.tuple #[.int .i64 0, .int .i64 0, .int .u16 10]))) := hid H; clear H
  go_enter Tryz.func145, Tryz.ntmps145; go_wp2_with (go_at_call 158; (with_reducible refine (H1.out _ (by exact slA hb)).mono ?_); rintro _ _ ⟨⟨e1, rfl⟩, rfl⟩)
  (try simp only [Exit.inBlock, Exit.then])
  refine bodyPost_ret (v := ?rv25) ?rh25 rfl ?rp25
  case rh25 => (simp only [results, show Tryz.f145.results = #[.tmp 4, .tmp 5, .tmp 6] from rfl]; go_simp; rfl)
  exact ⟨ovA, rfl⟩
theorem run_zindex0 (w : World) : (Instr.index 224 zrowsV (.int .i64 0)).run Tryz.prog w = .ok (.agg #[.int .u64 0, .int .i64 1, .int .i64 0]) w := by kernel_rfl
theorem run_zindex1 (w : World) : (Instr.index 224 zrowsV (.int .i64 1)).run Tryz.prog w = .ok (.agg #[.int .u64 2, .int .i64 2, .int .i64 7]) w := by kernel_rfl
theorem run_zindex2 (w : World) : (Instr.index 224 zrowsV (.int .i64 2)).run Tryz.prog w = .ok (.agg #[.int .u64 6, .int .i64 3, .int .i64 9]) w := by kernel_rfl
theorem run_zindex3 (w : World) : (Instr.index 224 zrowsV (.int .i64 3)).run Tryz.prog w = .ok (.agg #[.int .u64 14, .int .i64 4, .int .i64 12]) w := by kernel_rfl
theorem run_zindex4 (w : World) : (Instr.index 224 zrowsV (.int .i64 4)).run Tryz.prog w = .ok (.agg #[.int .u64 30, .int .i64 5, .int .i64 32]) w := by kernel_rfl
theorem run_zindex5 (w : World) : (Instr.index 224 zrowsV (.int .i64 5)).run Tryz.prog w = .ok (.agg #[.int .u64 31, .int .i64 5, .int .i64 64]) w := by kernel_rfl
theorem run_zindex (w : World) {k : Nat} (hk : k ≤ 5) : (Instr.index 224 zrowsV (.int .i64 (k : Nat))).run Tryz.prog w = .ok (.agg #[.int .u64 (zahead k : Nat), .int .i64 (zmany k : Nat), .int .i64 (zw k : Nat)]) w := by
 have : k = 0 ∨ k = 1 ∨ k = 2 ∨ k = 3 ∨ k = 4 ∨ k = 5 := by omega
 rcases this with rfl | rfl | rfl | rfl | rfl | rfl
 · exact run_zindex0 w
 · exact run_zindex1 w
 · exact run_zindex2 w
 · exact run_zindex3 w
 · exact run_zindex4 w
 · exact run_zindex5 w
theorem run_zfield (w : World) (x y z : Int) : (Instr.field 196 (.agg #[.int .u64 x, .int .i64 y, .int .i64 z]) 2).run Tryz.prog w = .ok (.int .i64 z) w := by kernel_rfl
theorem zget_few (l : List Bool) (a : Option Addr) (cap : Nat) (at_ n : Int) (k : Nat) (hk : k ≤ 5) (w : World) (hb : SlB w a cap (pack l)) (H : ∀ W, SlB W a cap (pack l) → Calls Tryz.prog 158 #[bv a (pack l).length cap l.length, .int .i64 at_] W (Ret W (whV k n 0)))
    (hg : BG l a cap n (zw k : Nat) 0 10) :
    Calls Tryz.prog 145 #[bv a (pack l).length cap l.length, .int .i64 at_] w (Ret w (zgV (0, 0, 10))) := by
  have H1 : Hid (∀ W, SlB W a cap (pack l) → Calls Tryz.prog 158 #[bv a (pack l).length cap l.length, .int .i64 at_] W (Ret W (.tuple #[.int .i64 (k : Nat), .int .i64 n, .int .u16 0]))) := hid H; clear H; have HR := hid (fun W => zrows_any W); have hidx := fun W => run_zindex W hk; have hfld := run_zfield; have H2 := hid hg; clear hg
  go_enter Tryz.func145, Tryz.ntmps145; go_wp2_with (first | (go_at_call 158; (with_reducible refine (H1.out _ (by exact slA hb)).mono ?_); rintro _ _ ⟨⟨e1, rfl⟩, rfl⟩) | (go_at_call 128; (with_reducible refine (HR.out _).mono ?_); rintro _ _ ⟨⟨e2, rfl⟩, rfl⟩) | (go_at_call 144; (with_reducible refine (H2.out _ (by exact slA hb)).mono ?_); rintro _ _ ⟨⟨e3, rfl⟩, rfl⟩))
  (try simp only [Exit.inBlock, Exit.then])
  refine bodyPost_ret (v := ?rv26) ?rh26 rfl ?rp26
  case rh26 => (simp only [results, show Tryz.f145.results = #[.tmp 4, .tmp 5, .tmp 6] from rfl]; go_simp; rfl)
  exact ⟨ovA, rfl⟩
theorem zget_num (l : List Bool) (a : Option Addr) (cap : Nat) (at_ n : Int) (hn : 0 ≤ n ∧ n ≤ 900000) (k : Nat) (hk : k ≤ 5) (w : World) (hb : SlB w a cap (pack l)) (H : ∀ W, SlB W a cap (pack l) → Calls Tryz.prog 158 #[bv a (pack l).length cap l.length, .int .i64 at_] W (Ret W (whV k n 0)))
    (m : Nat) (hm : m < 18446744073709551616) (hg : BG l a cap n (zw k : Nat) (m : Nat) 0) :
    Calls Tryz.prog 145 #[bv a (pack l).length cap l.length, .int .i64 at_] w (Ret w (zgV (if zrow m ≠ k then (0, 0, 11) else (unfoldZ m, n + zw k, 0)))) := by
  have H1 : Hid (∀ W, SlB W a cap (pack l) → Calls Tryz.prog 158 #[bv a (pack l).length cap l.length, .int .i64 at_] W (Ret W (.tuple #[.int .i64 (k : Nat), .int .i64 n, .int .u16 0]))) := hid H; clear H; have HR := hid (fun W => zrows_any W); have hidx := fun W => run_zindex W hk; have hfld := run_zfield; have H2 := hid hg; have HS := hid (fun W => zfirst_any m hm W); have HU := hid (fun W => zunfold_any m hm W); have hz := zw_le k; obtain ⟨hn1, hn2⟩ := hn; clear hg; by_cases hr : zrow m = k
  · rw [if_neg (by simpa using hr)]; rw [hr] at HS; clear hr; generalize zahead k = A at *; generalize zmany k = M at *; generalize zw k = W at *
    go_enter Tryz.func145, Tryz.ntmps145; go_wp2_with (first | (go_at_call 158; (with_reducible refine (H1.out _ (by exact slA hb)).mono ?_); rintro _ _ ⟨⟨e1, rfl⟩, rfl⟩) | (go_at_call 128; (with_reducible refine (HR.out _).mono ?_); rintro _ _ ⟨⟨e2, rfl⟩, rfl⟩) | (go_at_call 144; (with_reducible refine (H2.out _ (by exact slA hb)).mono ?_); rintro _ _ ⟨⟨e3, rfl⟩, rfl⟩) | (go_at_call 104; (with_reducible refine (HS.out _).mono ?_); rintro _ _ ⟨⟨e4, rfl⟩, rfl⟩) | (go_at_call 159; (with_reducible refine (HU.out _).mono ?_); rintro _ _ ⟨⟨e5, rfl⟩, rfl⟩))
    (try simp only [Exit.inBlock, Exit.then])
    refine bodyPost_ret (v := ?rv27) ?rh27 rfl ?rp27
    case rh27 => (simp only [results, show Tryz.f145.results = #[.tmp 4, .tmp 5, .tmp 6] from rfl]; go_simp; rfl)
    exact ⟨ovA, rfl⟩
  · rw [if_pos hr]; have hr' : ((zrow m : Int) != (k : Int)) = true := by simp; omega
    clear hr; generalize zrow m = R at *
    go_enter Tryz.func145, Tryz.ntmps145; go_wp2_with (first | (go_at_call 158; (with_reducible refine (H1.out _ (by exact slA hb)).mono ?_); rintro _ _ ⟨⟨e1, rfl⟩, rfl⟩) | (go_at_call 128; (with_reducible refine (HR.out _).mono ?_); rintro _ _ ⟨⟨e2, rfl⟩, rfl⟩) | (go_at_call 144; (with_reducible refine (H2.out _ (by exact slA hb)).mono ?_); rintro _ _ ⟨⟨e3, rfl⟩, rfl⟩) | (go_at_call 104; (with_reducible refine (HS.out _).mono ?_); rintro _ _ ⟨⟨e4, rfl⟩, rfl⟩))
    (try simp only [Exit.inBlock, Exit.then])
    refine bodyPost_ret (v := ?rv28) ?rh28 rfl ?rp28
    case rh28 => (simp only [results, show Tryz.f145.results = #[.tmp 4, .tmp 5, .tmp 6] from rfl]; go_simp; rfl)
    exact ⟨ovA, rfl⟩
theorem zget_yes (l : List Bool) (hl : l.length ≤ 800000) (a : Option Addr) (cap : Nat) (at_ : Int) (hat : -9223372036854775808 ≤ at_ ∧ at_ ≤ 9223372036854775807) (w : World) (hb : SlB w a cap (pack l)) :
    Calls Tryz.prog 145 #[bv a (pack l).length cap l.length, .int .i64 at_] w (Ret w (zgV (getZ l at_))) := by
  unfold getZ; by_cases h : at_ < 0 ∨ l.length < at_
  · rw [if_pos h]; exact zget_no l a cap at_ w hb (fun W h1 => which_far l hl a cap at_ hat h W h1)
  · rw [if_neg h]; obtain ⟨i, rfl⟩ : ∃ i : Nat, at_ = i := ⟨at_.toNat, by omega⟩; have hw := fun W h1 => which_in l hl a cap i (by omega) W h1; obtain ⟨_, _, s3, s4⟩ := ones_spec l i; have s4 := s4 (by omega); have hzl := zhead_len s3; rw [Int.toNat_natCast]; generalize ones (l.drop i) 5 = K at *; by_cases h5 : K < 5 ∧ l.length ≤ i + K
    · rw [if_pos h5] at hw ⊢; exact zget_no l a cap i w hb hw
    · rw [if_neg h5] at hw ⊢; rw [show (i : Int) + ((zhead K).length : Nat) = ((i + (zhead K).length : Nat) : Int) by omega]; have hle : i + (zhead K).length ≤ l.length := by rw [hzl]; omega
      obtain ⟨⟨m, e⟩, hg⟩ : ∃ p, getN l ((i + (zhead K).length : Nat) : Int) (zw K) = p := ⟨_, rfl⟩; rw [hg]; by_cases he : e = 0
      · subst he; simp only [ne_eq, not_true, if_false]; have hm : m < 18446744073709551616 := by
         have := getN_lt l ((i + (zhead K).length : Nat) : Int) (zw K); rw [hg] at this; exact Nat.lt_of_lt_of_le this (by rw [show 18446744073709551616 = 2 ^ 64 from rfl]; exact Nat.pow_le_pow_right (by omega) (zw_le K))
        exact zget_num l a cap i _ (by omega) K s3 w hb hw m hm (bg_of (by omega) a cap (by omega) (zw_le K) hg _ _ _ rfl rfl rfl)
      · have := getN_bad (l := l) (at_ := ((i + (zhead K).length : Nat) : Int)) (width := zw K) (by rw [hg]; exact he); rw [this] at hg; simp only [Prod.mk.injEq] at hg; obtain ⟨rfl, rfl⟩ := hg; rw [if_pos (by decide)]; exact zget_few l a cap i _ K s3 w hb hw (bg_of (by omega) a cap (by omega) (zw_le K) this _ _ _ rfl rfl rfl)
end
end Go.Proofs.YtnffcckhdedhpaaGreatDoor
