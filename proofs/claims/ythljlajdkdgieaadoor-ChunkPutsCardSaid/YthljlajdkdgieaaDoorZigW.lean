/- Walks: zig's Fold, Unfold, rows, first; the document's. -/
import Derived.Test.YthljlajdkdgieaaDoorZigP
import Derived.Test.YthljlajdkdgieaaDoorBitO
namespace Go.Proofs.YthljlajdkdgieaaDoor
set_option linter.unusedVariables false
set_option linter.unusedSimpArgs false
open Go.RowKit
attribute [local go_sem] over_drew

theorem xor_all {x : Nat} (h : x < 18446744073709551616) : x ^^^ 18446744073709551615 = 18446744073709551615 - x := by
  have e : 18446744073709551615 - x = 2 ^ 64 - (x + 1) := by omega
  rw [e]
  apply Nat.eq_of_testBit_eq
  intro i
  rw [Nat.testBit_xor, Nat.testBit_two_pow_sub_succ h, show (18446744073709551615 : Nat) = 2 ^ 64 - 1 from rfl, Nat.testBit_two_pow_sub_one]
  by_cases hi : i < 64
  · simp [hi]
  · have : x.testBit i = false := Nat.testBit_lt_two_pow (Nat.lt_of_lt_of_le h (by rw [show 18446744073709551616 = 2 ^ 64 from rfl]; exact Nat.pow_le_pow_right (by omega) (by omega)))
    simp [hi, this]

set_option maxHeartbeats 1000000 in
theorem zfold_any (v : Int) (hv : i64ok v) (w : World) : Calls Tryd.prog 77 #[.int .i64 v] w (Ret w (.int .u64 (foldZ v : Nat))) := by
  obtain ⟨h1, h2⟩ := hv
  by_cases h0 : 0 ≤ v
  · obtain ⟨n, rfl⟩ : ∃ n : Nat, v = n := ⟨v.toNat, by omega⟩
    have hf : foldZ n = 2 * n := by unfold foldZ; rw [if_pos h0]; omega
    have hd : (n : Int) / 9223372036854775808 = 0 := by omega
    have hx := xor64 (2 * n) 0 (by omega) (by decide)
    simp only [Nat.xor_zero] at hx
    have HX := hid hx
    have HF := hid hf
    clear hx hf
    go_enter Tryd.func77, Tryd.ntmps77
    go_wp2
    go_ret
    refine ⟨(by (try unfold Ov); repeat (first | with_reducible exact ex_over | with_reducible exact over_self _ | with_reducible refine ex_undrew ?_ | with_reducible refine ex_into ?_ _ | with_reducible refine ex_alloc ?_ _ | with_reducible refine ex_drew ?_ | ((with_reducible refine ex_setCell ?_ ?_ _); rotate_left; (first | omega | (focus (simp; done)) | (focus (simp; omega)))) | ((with_reducible refine ex_chg ?_ _ ?_); rotate_left; (first | assumption | (exact Hid.out (by assumption)))) | exact ex_over)), ret_int ?_⟩
    rw [HF.out, ← HX.out]
    congr 1
    omega
  · have hf : foldZ v = (2 * (-(v + 1)) + 1).toNat := by unfold foldZ; rw [if_neg h0]
    have hd : v / 9223372036854775808 = -1 := by omega
    obtain ⟨m, hm⟩ : ∃ m : Nat, IntKind.u64.wrap (IntKind.u64.wrap v * 2) = m ∧ (m : Int) = 18446744073709551616 + 2 * v := by
      refine ⟨(18446744073709551616 + 2 * v).toNat, ?_, by omega⟩
      simp only [IntKind.wrap_u64]
      omega
    have hx := xor64 m 18446744073709551615 (by omega) (by decide)
    rw [xor_all (by omega)] at hx
    have HX := hid hx
    have HF := hid hf
    have HM := hid hm
    clear hx hf hm
    have h0' : v < 0 := by omega
    go_enter Tryd.func77, Tryd.ntmps77
    go_wp2
    go_ret
    refine ⟨(by (try unfold Ov); repeat (first | with_reducible exact ex_over | with_reducible exact over_self _ | with_reducible refine ex_undrew ?_ | with_reducible refine ex_into ?_ _ | with_reducible refine ex_alloc ?_ _ | with_reducible refine ex_drew ?_ | ((with_reducible refine ex_setCell ?_ ?_ _); rotate_left; (first | omega | (focus (simp; done)) | (focus (simp; omega)))) | ((with_reducible refine ex_chg ?_ _ ?_); rotate_left; (first | assumption | (exact Hid.out (by assumption)))) | exact ex_over)), ret_int ?_⟩
    have e1 : IntKind.u64.wrap (-1) = ((18446744073709551615 : Nat) : Int) := by simp only [IntKind.wrap_u64]; decide
    rw [HF.out, HM.out.1, e1, HX.out]
    have := HM.out.2
    omega

set_option maxHeartbeats 1000000 in
theorem rfold_any (v : Int) (hv : i64ok v) (w : World) : Calls Tryd.prog 79 #[.int .i64 v] w (Ret w (.int .u64 (foldZ v : Nat))) := by
  obtain ⟨h1, h2⟩ := hv
  by_cases h0 : 0 ≤ v
  · have HF := hid (show foldZ v = (2 * v).toNat by unfold foldZ; rw [if_pos h0])
    go_enter Tryd.func79, Tryd.ntmps79
    go_wp2
    go_ret
    refine ⟨(by (try unfold Ov); repeat (first | with_reducible exact ex_over | with_reducible exact over_self _ | with_reducible refine ex_undrew ?_ | with_reducible refine ex_into ?_ _ | with_reducible refine ex_alloc ?_ _ | with_reducible refine ex_drew ?_ | ((with_reducible refine ex_setCell ?_ ?_ _); rotate_left; (first | omega | (focus (simp; done)) | (focus (simp; omega)))) | ((with_reducible refine ex_chg ?_ _ ?_); rotate_left; (first | assumption | (exact Hid.out (by assumption)))) | exact ex_over)), ret_int ?_⟩
    rw [HF.out]
    try simp only [IntKind.wrap_u64]
    omega
  · have HF := hid (show foldZ v = (2 * (-(v + 1)) + 1).toNat by unfold foldZ; rw [if_neg h0])
    have h0' : v < 0 := by omega
    go_enter Tryd.func79, Tryd.ntmps79
    go_wp2
    go_ret
    refine ⟨(by (try unfold Ov); repeat (first | with_reducible exact ex_over | with_reducible exact over_self _ | with_reducible refine ex_undrew ?_ | with_reducible refine ex_into ?_ _ | with_reducible refine ex_alloc ?_ _ | with_reducible refine ex_drew ?_ | ((with_reducible refine ex_setCell ?_ ?_ _); rotate_left; (first | omega | (focus (simp; done)) | (focus (simp; omega)))) | ((with_reducible refine ex_chg ?_ _ ?_); rotate_left; (first | assumption | (exact Hid.out (by assumption)))) | exact ex_over)), ret_int ?_⟩
    rw [HF.out]
    try simp only [IntKind.wrap_u64]
    omega

set_option maxHeartbeats 1000000 in
theorem runfold_any (n : Nat) (hn : n < 18446744073709551616) (w : World) : Calls Tryd.prog 85 #[.int .u64 (n : Nat)] w (Ret w (.int .i64 (unfoldZ n))) := by
  by_cases h0 : n % 2 = 0
  · have HF := hid (show unfoldZ n = ((n / 2 : Nat) : Int) by unfold unfoldZ; rw [if_pos h0])
    have h0' : (n : Int) % 2 = 0 := by omega
    go_enter Tryd.func85, Tryd.ntmps85
    go_wp2
    go_ret
    refine ⟨(by (try unfold Ov); repeat (first | with_reducible exact ex_over | with_reducible exact over_self _ | with_reducible refine ex_undrew ?_ | with_reducible refine ex_into ?_ _ | with_reducible refine ex_alloc ?_ _ | with_reducible refine ex_drew ?_ | ((with_reducible refine ex_setCell ?_ ?_ _); rotate_left; (first | omega | (focus (simp; done)) | (focus (simp; omega)))) | ((with_reducible refine ex_chg ?_ _ ?_); rotate_left; (first | assumption | (exact Hid.out (by assumption)))) | exact ex_over)), ret_int ?_⟩
    rw [HF.out]
    try simp only [IntKind.wrap_i64]
    try omega
  · have HF := hid (show unfoldZ n = -((n / 2 : Nat) : Int) - 1 by unfold unfoldZ; rw [if_neg h0])
    have h0' : (n : Int) % 2 = 1 := by omega
    go_enter Tryd.func85, Tryd.ntmps85
    go_wp2
    go_ret
    refine ⟨(by (try unfold Ov); repeat (first | with_reducible exact ex_over | with_reducible exact over_self _ | with_reducible refine ex_undrew ?_ | with_reducible refine ex_into ?_ _ | with_reducible refine ex_alloc ?_ _ | with_reducible refine ex_drew ?_ | ((with_reducible refine ex_setCell ?_ ?_ _); rotate_left; (first | omega | (focus (simp; done)) | (focus (simp; omega)))) | ((with_reducible refine ex_chg ?_ _ ?_); rotate_left; (first | assumption | (exact Hid.out (by assumption)))) | exact ex_over)), ret_int ?_⟩
    rw [HF.out]
    try simp only [IntKind.wrap_i64]
    try omega

theorem xori_0 (m : Nat) (hm : m < 9223372036854775808) : bits .xor .i64 (m : Int) 0 = m := by
  have h : m % 2 ^ 64 = m := Nat.mod_eq_of_lt (by omega)
  simp only [bits, BitVec.ofInt_natCast, IntKind.bits]
  have e : (BitVec.ofNat 64 m ^^^ BitVec.ofInt 64 0).toNat = m := by rw [BitVec.toNat_xor, BitVec.toNat_ofNat, h]; exact Nat.xor_zero m
  refine (congrArg (fun x : Nat => IntKind.i64.wrap (x : Int)) e).trans ?_
  simp only [IntKind.wrap_i64]
  omega
theorem xori_1 (m : Nat) (hm : m < 9223372036854775808) : bits .xor .i64 (m : Int) (-1) = -(m : Int) - 1 := by
  have h : m % 2 ^ 64 = m := Nat.mod_eq_of_lt (by omega)
  simp only [bits, BitVec.ofInt_natCast, IntKind.bits]
  have e : (BitVec.ofNat 64 m ^^^ BitVec.ofInt 64 (-1)).toNat = 18446744073709551615 - m := by rw [BitVec.toNat_xor, BitVec.toNat_ofNat, h, show (BitVec.ofInt 64 (-1)).toNat = 18446744073709551615 by decide, xor_all (by omega)]
  refine (congrArg (fun x : Nat => IntKind.i64.wrap (x : Int)) e).trans ?_
  simp only [IntKind.wrap_i64]
  omega
set_option maxHeartbeats 1000000 in
theorem zunfold_any (n : Nat) (hn : n < 18446744073709551616) (w : World) : Calls Tryd.prog 90 #[.int .u64 (n : Nat)] w (Ret w (.int .i64 (unfoldZ n))) := by
  have ha := and64 n 1 hn (by decide)
  rw [Nat.and_one_is_mod] at ha
  obtain ⟨m, hm⟩ : ∃ m, n / 2 = m := ⟨_, rfl⟩
  have hm2 : (n : Int) / 2 = (m : Int) := by omega
  have hml : m < 9223372036854775808 := by omega
  by_cases h0 : n % 2 = 0
  · have HF := hid (show unfoldZ n = (m : Int) by unfold unfoldZ; rw [if_pos h0, hm])
    rw [h0] at ha
    have ha' : bits .and .u64 (n : Int) 1 = 0 := ha
    have HX := xori_0 m hml
    clear h0 hm
    have hw0 : wrap64 0 = 0 := by unfold wrap64; omega
    have hw1 : wrap64 1 = 1 := by unfold wrap64; omega
    have hw2 : wrap64 (-1) = -1 := by unfold wrap64; omega
    go_enter Tryd.func90, Tryd.ntmps90
    go_wp2
    go_ret
    refine ⟨(by (try unfold Ov); repeat (first | with_reducible exact ex_over | with_reducible exact over_self _ | with_reducible refine ex_undrew ?_ | with_reducible refine ex_into ?_ _ | with_reducible refine ex_alloc ?_ _ | with_reducible refine ex_drew ?_ | ((with_reducible refine ex_setCell ?_ ?_ _); rotate_left; (first | omega | (focus (simp; done)) | (focus (simp; omega)))) | ((with_reducible refine ex_chg ?_ _ ?_); rotate_left; (first | assumption | (exact Hid.out (by assumption)))) | exact ex_over)), ret_int ?_⟩
    rw [HF.out]
    try simp only [ha', hw0, hw1, hw2, Int.neg_zero, HX]
  · have HF := hid (show unfoldZ n = -(m : Int) - 1 by unfold unfoldZ; rw [if_neg h0, hm])
    rw [show n % 2 = 1 by omega] at ha
    have ha' : bits .and .u64 (n : Int) 1 = 1 := ha
    have HX := xori_1 m hml
    clear h0 hm
    have hw0 : wrap64 0 = 0 := by unfold wrap64; omega
    have hw1 : wrap64 1 = 1 := by unfold wrap64; omega
    have hw2 : wrap64 (-1) = -1 := by unfold wrap64; omega
    go_enter Tryd.func90, Tryd.ntmps90
    go_wp2
    go_ret
    refine ⟨(by (try unfold Ov); repeat (first | with_reducible exact ex_over | with_reducible exact over_self _ | with_reducible refine ex_undrew ?_ | with_reducible refine ex_into ?_ _ | with_reducible refine ex_alloc ?_ _ | with_reducible refine ex_drew ?_ | ((with_reducible refine ex_setCell ?_ ?_ _); rotate_left; (first | omega | (focus (simp; done)) | (focus (simp; omega)))) | ((with_reducible refine ex_chg ?_ _ ?_); rotate_left; (first | assumption | (exact Hid.out (by assumption)))) | exact ex_over)), ret_int ?_⟩
    rw [HF.out]
    try simp only [ha', hw0, hw1, hw2, Int.neg_zero, HX]

/-! ### Rows -/
def zahead : Nat → Nat
  | 0 => 0
  | 1 => 2
  | 2 => 6
  | 3 => 14
  | 4 => 30
  | _ => 31
def zmany : Nat → Nat
  | 0 => 1
  | 1 => 2
  | 2 => 3
  | 3 => 4
  | _ => 5
theorem zhead_num {k : Nat} (hk : k ≤ 5) : num (zahead k) (zmany k) = zhead k := by
  match k, hk with
  | 0, _ => rfl
  | 1, _ => rfl
  | 2, _ => rfl
  | 3, _ => rfl
  | 4, _ => rfl
  | 5, _ => rfl
end Go.Proofs.YthljlajdkdgieaaDoor
