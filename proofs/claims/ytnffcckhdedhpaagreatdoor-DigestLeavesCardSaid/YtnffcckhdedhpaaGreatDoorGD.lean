import Derived.Test.YtnffcckhdedhpaaGreatDoorGA
import Derived.Test.YtnffcckhdedhpaaGreatDoorGB
namespace Go.Proofs.YtnffcckhdedhpaaGreatDoor
set_option linter.unusedVariables false
set_option linter.unusedSimpArgs false
set_option maxRecDepth 100000
set_option maxHeartbeats 2000000
section
def i64ok (v : Int) : Prop := -9223372036854775808 ≤ v ∧ v ≤ 9223372036854775807
def foldZ (v : Int) : Nat := if 0 ≤ v then (2 * v).toNat else (2 * (-(v + 1)) + 1).toNat
theorem foldZ_lt {v : Int} (h : i64ok v) : foldZ v < 18446744073709551616 := by unfold i64ok at h; unfold foldZ; split <;> omega
def zw : Nat → Nat
  | 0 => 0
  | 1 => 7
  | 2 => 9
  | 3 => 12
  | 4 => 32
  | _ => 64
theorem zw_le (k : Nat) : zw k ≤ 64 := by unfold zw; split <;> omega
def zrow (n : Nat) : Nat := if n < 1 then 0 else if n < 128 then 1 else if n < 512 then 2 else if n < 4096 then 3 else if n < 4294967296 then 4 else 5
theorem zrow_le (n : Nat) : zrow n ≤ 5 := by
 unfold zrow; repeat' split
 all_goals omega
theorem zrow_lt {n : Nat} (h : n < 18446744073709551616) : n < 2 ^ zw (zrow n) := by
 unfold zrow; split
 · simp [zw]; omega
 split
 · simp [zw]; omega
 split
 · simp [zw]; omega
 split
 · simp [zw]; omega
 split
 · simp [zw]; omega
 · simp [zw]; omega
def zhead (k : Nat) : List Bool := List.replicate k true ++ (if k < 5 then [false] else [])
theorem zhead_len {k : Nat} (h : k ≤ 5) : (zhead k).length = min (k + 1) 5 := by unfold zhead; split <;> simp <;> omega
def zbits (n : Nat) : List Bool := zhead (zrow n) ++ num n (zw (zrow n))
theorem zbits_len (n : Nat) : 1 ≤ (zbits n).length ∧ (zbits n).length ≤ 69 := by
 unfold zbits; rw [List.length_append, nml, zhead_len (zrow_le n)]; have := zw_le (zrow n); omega
def ones : List Bool → Nat → Nat
  | true :: l, m + 1 => ones l m + 1
  | _, _ => 0
theorem zrow_fits {n k : Nat} (hk : k ≤ 5) (hn : n < 2 ^ zw k) : zrow n ≤ k := by
 unfold zrow
 match k, hk with
 | 0, _ => simp [zw] at hn; simp [hn]
 | 1, _ => simp [zw] at hn; split <;> (try omega)
 | 2, _ => simp [zw] at hn; split <;> (try omega); split <;> (try omega)
 | 3, _ => simp [zw] at hn; split <;> (try omega); split <;> (try omega); split <;> (try omega)
 | 4, _ => simp [zw] at hn; split <;> (try omega); split <;> (try omega); split <;> (try omega); split <;> (try omega)
 | 5, _ => repeat' split
           all_goals omega
end
section
open Go.RowKit
attribute [local go_sem] odr
theorem xor_all {x : Nat} (h : x < 18446744073709551616) : x ^^^ 18446744073709551615 = 18446744073709551615 - x := by
 have e : 18446744073709551615 - x = 2 ^ 64 - (x + 1) := by omega
 rw [e]; apply Nat.eq_of_testBit_eq; intro i; rw [Nat.testBit_xor, Nat.testBit_two_pow_sub_succ h, show (18446744073709551615 : Nat) = 2 ^ 64 - 1 from rfl, Nat.testBit_two_pow_sub_one]; by_cases hi : i < 64
 · simp [hi]
 · have : x.testBit i = false := Nat.testBit_lt_two_pow (Nat.lt_of_lt_of_le h (by rw [show 18446744073709551616 = 2 ^ 64 from rfl]; exact Nat.pow_le_pow_right (by omega) (by omega))); simp [hi, this]
theorem zfold_any (v : Int) (hv : i64ok v) (w : World) : Calls Tryz.prog 103 #[.int .i64 v] w (Ret w (.int .u64 (foldZ v : Nat))) := by
 obtain ⟨h1, h2⟩ := hv; by_cases h0 : 0 ≤ v
 · obtain ⟨n, rfl⟩ : ∃ n : Nat, v = n := ⟨v.toNat, by omega⟩; have hf : foldZ n = 2 * n := by unfold foldZ; rw [if_pos h0]; omega
   have hd : (n : Int) / 9223372036854775808 = 0 := by omega
   have hx := xor64 (2 * n) 0 (by omega) (by decide); simp only [Nat.xor_zero] at hx; have HX := hid hx; have HF := hid hf; clear hx hf
   go_enter Tryz.func103, Tryz.ntmps103; go_wp2; go_ret
   refine ⟨ovA, ret_int ?_⟩; rw [HF.out, ← HX.out]
   congr 1
   omega
 · have hf : foldZ v = (2 * (-(v + 1)) + 1).toNat := by unfold foldZ; rw [if_neg h0]
   have hd : v / 9223372036854775808 = -1 := by omega
   obtain ⟨m, hm⟩ : ∃ m : Nat, IntKind.u64.wrap (IntKind.u64.wrap v * 2) = m ∧ (m : Int) = 18446744073709551616 + 2 * v := by
    refine ⟨(18446744073709551616 + 2 * v).toNat, ?_, by omega⟩; simp only [IntKind.wrap_u64]; omega
   have hx := xor64 m 18446744073709551615 (by omega) (by decide); rw [xor_all (by omega)] at hx; have HX := hid hx; have HF := hid hf; have HM := hid hm; clear hx hf hm; have h0' : v < 0 := by omega
   go_enter Tryz.func103, Tryz.ntmps103; go_wp2; go_ret
   refine ⟨ovA, ret_int ?_⟩; have e1 : IntKind.u64.wrap (-1) = ((18446744073709551615 : Nat) : Int) := by simp only [IntKind.wrap_u64]; decide
   rw [HF.out, HM.out.1, e1, HX.out]; have := HM.out.2; omega
theorem rfold_any (v : Int) (hv : i64ok v) (w : World) : Calls Tryz.prog 152 #[.int .i64 v] w (Ret w (.int .u64 (foldZ v : Nat))) := by
 obtain ⟨h1, h2⟩ := hv; by_cases h0 : 0 ≤ v
 · have HF := hid (show foldZ v = (2 * v).toNat by unfold foldZ; rw [if_pos h0])
   go_enter Tryz.func152, Tryz.ntmps152; go_wp2; go_ret
   refine ⟨ovA, ret_int ?_⟩; rw [HF.out]; try simp only [IntKind.wrap_u64]
   omega
 · have HF := hid (show foldZ v = (2 * (-(v + 1)) + 1).toNat by unfold foldZ; rw [if_neg h0]); have h0' : v < 0 := by omega
   go_enter Tryz.func152, Tryz.ntmps152; go_wp2; go_ret
   refine ⟨ovA, ret_int ?_⟩; rw [HF.out]; try simp only [IntKind.wrap_u64]
   omega
/-! ### Rows -/
def zahead : Nat → Nat
  | 0 => 0
  | 1 => 2
  | 2 => 6
  | 3 => 14
  | 4 => 30
  | _ => 31
def zmany : Nat → Nat
  | 0 => 1
  | 1 => 2
  | 2 => 3
  | 3 => 4
  | _ => 5
theorem zhead_num {k : Nat} (hk : k ≤ 5) : num (zahead k) (zmany k) = zhead k := by
 match k, hk with
 | 0, _ => rfl
 | 1, _ => rfl
 | 2, _ => rfl
 | 3, _ => rfl
 | 4, _ => rfl
 | 5, _ => rfl
end
section
open Go.RowKit
attribute [local go_sem] odr
theorem rrow_any (k : Nat) (hk : k ≤ 5) (w : World) : Calls Tryz.prog 154 #[.int .i64 (k : Nat)] w (Ret w (.tuple #[.int .i64 (k : Nat), .int .i64 (zw k : Nat)])) := by
 have : k = 0 ∨ k = 1 ∨ k = 2 ∨ k = 3 ∨ k = 4 ∨ k = 5 := by omega
 rcases this with rfl | rfl | rfl | rfl | rfl | rfl
 all_goals
   go_enter Tryz.func154, Tryz.ntmps154; go_wp2; refine M2.wrm [] 8 (by kernel_rfl) (by kernel_rfl) (by decide) ?_; simp only [M2.td]; with_reducible refine M2.mlq 8 (by kernel_rfl) ?_
   simp only [M2.td]; repeat (go_big_quiet_step (fail))
   with_reducible refine wpQuiet_nil ?_
   with_reducible refine M2.mln ?_
   with_reducible refine M2.mln ?_
   go_wp2; go_ret2
   exact ⟨ovA, rfl⟩
theorem zrow_iff {n k : Nat} (hn : n < 18446744073709551616) (hk : k ≤ 5) : zrow n ≤ k ↔ n < 2 ^ zw k := by
 constructor
 · intro h; refine Nat.lt_of_lt_of_le (zrow_lt hn) (Nat.pow_le_pow_right (by omega) ?_); have h5 := zrow_le n; generalize zrow n = j at *
   match j, k, h5, hk, h with
   | 0, k, _, _, _ => simp [zw]
   | 1, 1, _, _, _ => decide
   | 1, 2, _, _, _ => decide
   | 1, 3, _, _, _ => decide
   | 1, 4, _, _, _ => decide
   | 1, 5, _, _, _ => decide
   | 2, 2, _, _, _ => decide
   | 2, 3, _, _, _ => decide
   | 2, 4, _, _, _ => decide
   | 2, 5, _, _, _ => decide
   | 3, 3, _, _, _ => decide
   | 3, 4, _, _, _ => decide
   | 3, 5, _, _, _ => decide
   | 4, 4, _, _, _ => decide
   | 4, 5, _, _, _ => decide
   | 5, 5, _, _, _ => decide
 · exact zrow_fits hk
theorem rfits_any (n k : Nat) (hn : n < 18446744073709551616) (hk : k ≤ 5) (w : World) : Calls Tryz.prog 153 #[.int .u64 (n : Nat), .int .i64 (k : Nat)] w (Ret w (.bool (decide (zrow n ≤ k)))) := by
 have HR := hid (fun W => rrow_any k hk W); have HI := hid (zrow_iff hn hk); by_cases h64 : zw k = 64
 · have hd : decide (zrow n ≤ k) = true := decide_eq_true (HI.out.2 (by rw [h64]; exact hn)); rw [h64] at HR; rw [hd]
   go_enter Tryz.func153, Tryz.ntmps153; go_wp2_with (go_at_call 154; (with_reducible refine (HR.out _).mono ?_); rintro _ _ ⟨⟨e1, rfl⟩, rfl⟩)
   go_ret
   exact ⟨ovA, rfl⟩
 · have hz := zw_le k; generalize zw k = W at *; have h64' : ((W : Int) == 64) = false := by simp; omega
   have hW : W ≤ 64 := hz; cases hd : decide (zrow n ≤ k)
   · have h0 : ¬ (n : Int) / (2 : Int) ^ W = 0 := by
      have h1 : ¬ n < 2 ^ W := fun h => of_decide_eq_false hd (HI.out.2 h); rw [cast_shr, Nat.shiftRight_eq_div_pow]; intro h; have h2 : n / 2 ^ W = 0 := by omega
      rcases Nat.div_eq_zero_iff.1 h2 with h3 | h3
      · have := Nat.two_pow_pos W; omega
      · exact h1 h3
     clear hd
     go_enter Tryz.func153, Tryz.ntmps153; go_wp2_with (go_at_call 154; (with_reducible refine (HR.out _).mono ?_); rintro _ _ ⟨⟨e1, rfl⟩, rfl⟩)
     go_ret
     exact ⟨ovA, rtb (by simp [h0])⟩
   · have h0 : (n : Int) / (2 : Int) ^ W = 0 := by
      have h1 : n < 2 ^ W := HI.out.1 (of_decide_eq_true hd); rw [cast_shr, Nat.shiftRight_eq_div_pow, Nat.div_eq_of_lt h1]; rfl
     clear hd
     go_enter Tryz.func153, Tryz.ntmps153; go_wp2_with (go_at_call 154; (with_reducible refine (HR.out _).mono ?_); rintro _ _ ⟨⟨e1, rfl⟩, rfl⟩)
     go_ret
     exact ⟨ovA, rtb (by simp [h0])⟩
end
end Go.Proofs.YtnffcckhdedhpaaGreatDoor
