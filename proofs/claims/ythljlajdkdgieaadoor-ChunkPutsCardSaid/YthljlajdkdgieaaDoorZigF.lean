/- Walks: the document's rows of zig. -/
import Derived.Test.YthljlajdkdgieaaDoorZigW
namespace Go.Proofs.YthljlajdkdgieaaDoor
set_option linter.unusedVariables false
set_option linter.unusedSimpArgs false
open Go.RowKit
attribute [local go_sem] over_drew

set_option maxRecDepth 100000 in
set_option maxHeartbeats 2000000 in
theorem rrow_any (k : Nat) (hk : k ≤ 5) (w : World) : Calls Tryd.prog 81 #[.int .i64 (k : Nat)] w (Ret w (.tuple #[.int .i64 (k : Nat), .int .i64 (zw k : Nat)])) := by
  have : k = 0 ∨ k = 1 ∨ k = 2 ∨ k = 3 ∨ k = 4 ∨ k = 5 := by omega
  rcases this with rfl | rfl | rfl | rfl | rfl | rfl
  all_goals
    go_enter Tryd.func81, Tryd.ntmps81
    go_wp2
    refine M2.wp_region_mix [] 8 (by kernel_rfl) (by kernel_rfl) (by decide) ?_
    simp only [List.take_succ_cons, List.take_zero, List.drop_succ_cons, List.drop_zero]
    with_reducible refine M2.mixL_quiet 8 (by kernel_rfl) ?_
    simp only [List.take_succ_cons, List.take_zero, List.drop_succ_cons, List.drop_zero]
    repeat (go_big_quiet_step (fail))
    with_reducible refine wpQuiet_nil ?_
    with_reducible refine M2.mixL_nil ?_
    with_reducible refine M2.mixL_nil ?_
    go_wp2
    go_ret2
    exact ⟨(by (try unfold Ov); repeat (first | with_reducible exact ex_over | with_reducible exact over_self _ | with_reducible refine ex_undrew ?_ | with_reducible refine ex_into ?_ _ | with_reducible refine ex_alloc ?_ _ | with_reducible refine ex_drew ?_ | ((with_reducible refine ex_setCell ?_ ?_ _); rotate_left; (first | omega | (focus (simp; done)) | (focus (simp; omega)))) | ((with_reducible refine ex_chg ?_ _ ?_); rotate_left; (first | assumption | (exact Hid.out (by assumption)))) | exact ex_over)), rfl⟩

theorem zrow_iff {n k : Nat} (hn : n < 18446744073709551616) (hk : k ≤ 5) : zrow n ≤ k ↔ n < 2 ^ zw k := by
  constructor
  · intro h
    refine Nat.lt_of_lt_of_le (zrow_lt hn) (Nat.pow_le_pow_right (by omega) ?_)
    have h5 := zrow_le n
    generalize zrow n = j at *
    match j, k, h5, hk, h with
    | 0, k, _, _, _ => simp [zw]
    | 1, 1, _, _, _ => decide
    | 1, 2, _, _, _ => decide
    | 1, 3, _, _, _ => decide
    | 1, 4, _, _, _ => decide
    | 1, 5, _, _, _ => decide
    | 2, 2, _, _, _ => decide
    | 2, 3, _, _, _ => decide
    | 2, 4, _, _, _ => decide
    | 2, 5, _, _, _ => decide
    | 3, 3, _, _, _ => decide
    | 3, 4, _, _, _ => decide
    | 3, 5, _, _, _ => decide
    | 4, 4, _, _, _ => decide
    | 4, 5, _, _, _ => decide
    | 5, 5, _, _, _ => decide
  · exact zrow_fits hk

set_option maxRecDepth 100000 in
set_option maxHeartbeats 2000000 in
theorem rfits_any (n k : Nat) (hn : n < 18446744073709551616) (hk : k ≤ 5) (w : World) : Calls Tryd.prog 80 #[.int .u64 (n : Nat), .int .i64 (k : Nat)] w (Ret w (.bool (decide (zrow n ≤ k)))) := by
  have HR := hid (fun W => rrow_any k hk W)
  have HI := hid (zrow_iff hn hk)
  by_cases h64 : zw k = 64
  · have hd : decide (zrow n ≤ k) = true := decide_eq_true (HI.out.2 (by rw [h64]; exact hn))
    rw [h64] at HR
    rw [hd]
    go_enter Tryd.func80, Tryd.ntmps80
    go_wp2_with (go_at_call 81; (with_reducible refine (HR.out _).mono ?_); rintro _ _ ⟨⟨e1, rfl⟩, rfl⟩)
    go_ret
    exact ⟨(by (try unfold Ov); repeat (first | with_reducible exact ex_over | with_reducible exact over_self _ | with_reducible refine ex_undrew ?_ | with_reducible refine ex_into ?_ _ | with_reducible refine ex_alloc ?_ _ | with_reducible refine ex_drew ?_ | ((with_reducible refine ex_setCell ?_ ?_ _); rotate_left; (first | omega | (focus (simp; done)) | (focus (simp; omega)))) | ((with_reducible refine ex_chg ?_ _ ?_); rotate_left; (first | assumption | (exact Hid.out (by assumption)))) | exact ex_over)), rfl⟩
  · have hz := zw_le k
    generalize zw k = W at *
    have h64' : ((W : Int) == 64) = false := by simp; omega
    have hW : W ≤ 64 := hz
    cases hd : decide (zrow n ≤ k)
    · have h0 : ¬ (n : Int) / (2 : Int) ^ W = 0 := by
        have h1 : ¬ n < 2 ^ W := fun h => of_decide_eq_false hd (HI.out.2 h)
        rw [cast_shr, Nat.shiftRight_eq_div_pow]
        intro h
        have h2 : n / 2 ^ W = 0 := by omega
        rcases Nat.div_eq_zero_iff.1 h2 with h3 | h3
        · have := Nat.two_pow_pos W; omega
        · exact h1 h3
      clear hd
      go_enter Tryd.func80, Tryd.ntmps80
      go_wp2_with (go_at_call 81; (with_reducible refine (HR.out _).mono ?_); rintro _ _ ⟨⟨e1, rfl⟩, rfl⟩)
      go_ret
      exact ⟨(by (try unfold Ov); repeat (first | with_reducible exact ex_over | with_reducible exact over_self _ | with_reducible refine ex_undrew ?_ | with_reducible refine ex_into ?_ _ | with_reducible refine ex_alloc ?_ _ | with_reducible refine ex_drew ?_ | ((with_reducible refine ex_setCell ?_ ?_ _); rotate_left; (first | omega | (focus (simp; done)) | (focus (simp; omega)))) | ((with_reducible refine ex_chg ?_ _ ?_); rotate_left; (first | assumption | (exact Hid.out (by assumption)))) | exact ex_over)), ret_bool (by simp [h0])⟩
    · have h0 : (n : Int) / (2 : Int) ^ W = 0 := by
        have h1 : n < 2 ^ W := HI.out.1 (of_decide_eq_true hd)
        rw [cast_shr, Nat.shiftRight_eq_div_pow, Nat.div_eq_of_lt h1]; rfl
      clear hd
      go_enter Tryd.func80, Tryd.ntmps80
      go_wp2_with (go_at_call 81; (with_reducible refine (HR.out _).mono ?_); rintro _ _ ⟨⟨e1, rfl⟩, rfl⟩)
      go_ret
      exact ⟨(by (try unfold Ov); repeat (first | with_reducible exact ex_over | with_reducible exact over_self _ | with_reducible refine ex_undrew ?_ | with_reducible refine ex_into ?_ _ | with_reducible refine ex_alloc ?_ _ | with_reducible refine ex_drew ?_ | ((with_reducible refine ex_setCell ?_ ?_ _); rotate_left; (first | omega | (focus (simp; done)) | (focus (simp; omega)))) | ((with_reducible refine ex_chg ?_ _ ?_); rotate_left; (first | assumption | (exact Hid.out (by assumption)))) | exact ex_over)), ret_bool (by simp [h0])⟩
end Go.Proofs.YthljlajdkdgieaaDoor
