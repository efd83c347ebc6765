import Derived.Test.YtnffcckhdedhpaaDoorLD
namespace Go.Proofs.YtnffcckhdedhpaaDoor
set_option linter.unusedVariables false
set_option linter.unusedSimpArgs false
open Go.RowKit
attribute [local go_sem] over_drew chg_drew

def JnI (a n x y m : Nat) : Prop := x < 2305843009213693951 ∧ y < 2305843009213693951 ∧ x * y ^ m % 2305843009213693951 = a * 1000000007 ^ n % 2305843009213693951
theorem pow_half (y m : Nat) : y ^ m = (if m % 2 = 1 then y else 1) * (y * y) ^ (m / 2) := by
  rcases Nat.mod_two_eq_zero_or_one m with h | h
  · obtain ⟨k, rfl⟩ : ∃ k, m = 2 * k := ⟨m / 2, by omega⟩
    rw [if_neg (by omega), Nat.one_mul, Nat.mul_div_cancel_left _ (by omega), Nat.pow_mul, Nat.pow_two]
  · obtain ⟨k, rfl⟩ : ∃ k, m = 2 * k + 1 := ⟨m / 2, by omega⟩
    rw [if_pos h, show (2 * k + 1) / 2 = k by omega, Nat.pow_succ, Nat.pow_mul, Nat.pow_two, Nat.mul_comm]
theorem jn_eq {a x y m x' M : Nat} (h : x * y ^ m % M = a) (hx : x' % M = x * (if m % 2 = 1 then y else 1) % M) : x' * (y * y % M) ^ (m / 2) % M = a := by
  rw [← h, pow_half y m, ← Nat.mul_assoc, Nat.mul_mod, Nat.pow_mod, Nat.mod_mod, hx, ← Nat.pow_mod, ← Nat.mul_mod]
theorem JnI.odd {a n x y m : Nat} (h : JnI a n x y m) (hm : m % 2 = 1) : JnI a n (x * y % 2305843009213693951) (y * y % 2305843009213693951) (m / 2) :=
  ⟨Nat.mod_lt _ (by decide), Nat.mod_lt _ (by decide), jn_eq h.2.2 (by rw [if_pos hm, Nat.mod_mod])⟩
theorem JnI.even {a n x y m : Nat} (h : JnI a n x y m) (hm : m % 2 = 0) : JnI a n x (y * y % 2305843009213693951) (m / 2) :=
  ⟨h.1, Nat.mod_lt _ (by decide), jn_eq h.2.2 (by rw [if_neg (by omega), Nat.mul_one])⟩
set_option maxHeartbeats 2000000 in
theorem rjoin_any (a b n : Nat) (ha : a < 18446744073709551616) (hb : b < 18446744073709551616) (hn : n ≤ 1000000) (w : World) :
    Calls Tryd.prog 8 #[.int .u64 (a : Nat), .int .u64 (b : Nat), .int .i64 (n : Nat)] w (Ret w (.int .u64 ((a * 1000000007 ^ n + b) % 2305843009213693951 : Nat))) := by
  have HT := hid (fun x y (hx : x < 2305843009213693951) (hy : y < 2305843009213693951) W => rtimes_any x y (by omega) (by omega) W)
  have hbm : b % 2305843009213693951 < 2305843009213693951 := Nat.mod_lt _ (by decide)
  have h1 : (a : Int).tmod 2305843009213693951 = ((a % 2305843009213693951 : Nat) : Int) := by rw [Int.tmod_eq_emod_of_nonneg (Int.natCast_nonneg a)]; omega
  have h2 : (a : Int) % 2305843009213693951 = ((a % 2305843009213693951 : Nat) : Int) := by omega
  have h3 : (b : Int).tmod 2305843009213693951 = ((b % 2305843009213693951 : Nat) : Int) := by rw [Int.tmod_eq_emod_of_nonneg (Int.natCast_nonneg b)]; omega
  have h4 : (b : Int) % 2305843009213693951 = ((b % 2305843009213693951 : Nat) : Int) := by omega
  have HR : Hid (∀ x, JnI a n x 0 0 → True) := hid (fun _ _ => trivial)
  clear HR
  have HST : Hid (JnI a n (a % 2305843009213693951) 1000000007 n) := hid ⟨Nat.mod_lt _ (by decide), by decide, by rw [Nat.mod_mul_mod]⟩
  have HFI : Hid (∀ x y, JnI a n x y 0 → (x + b % 2305843009213693951) % 2305843009213693951 = (a * 1000000007 ^ n + b) % 2305843009213693951) := hid (fun x y h => by
    have h5 := h.2.2
    rw [Nat.pow_zero, Nat.mul_one, Nat.mod_eq_of_lt h.1] at h5
    rw [h5, ← Nat.add_mod])
  obtain ⟨R, hR⟩ : ∃ R, (a * 1000000007 ^ n + b) % 2305843009213693951 = R := ⟨_, rfl⟩
  rw [hR] at HFI ⊢
  obtain ⟨am, ham⟩ : ∃ x, a % 2305843009213693951 = x := ⟨_, rfl⟩
  rw [ham] at h1 h2 HST
  obtain ⟨bm, hbm0⟩ : ∃ x, b % 2305843009213693951 = x := ⟨_, rfl⟩
  rw [hbm0] at h3 h4 hbm HFI
  clear hR ham hbm0
  go_enter Tryd.func8, Tryd.ntmps8
  go_wp2
  go_loopw [0, 2, 7] (fun p q r wr => ∃ (x y m : Nat), m ≤ n ∧ p = .int .u64 (x : Nat) ∧ q = .int .i64 (m : Nat) ∧ r = .int .u64 (y : Nat) ∧ JnI a n x y m ∧ Ov w wr) (fun _ q _ _ => (intOf q).toNat)
  case atStart => exact ⟨am, 1000000007, n, Nat.le_refl _, by go_num, rfl, rfl, HST.out, ovA⟩
  case round =>
    obtain ⟨x, y, m, hm, rfl, rfl, rfl, hI, ⟨e0, rfl⟩⟩ := hrel
    by_cases hlt : 0 < m
    · have hx := hI.1
      have hy := hI.2.1
      have hlt2 : ((m : Int) > 0) := by omega
      have hq : (m : Int).tdiv 2 = ((m / 2 : Nat) : Int) := by rw [Int.tdiv_eq_ediv_of_nonneg (by omega)]; omega
      have hq2 : (m : Int) / 2 = ((m / 2 : Nat) : Int) := by omega
      have hr : (m : Int).tmod 2 = ((m % 2 : Nat) : Int) := by rw [Int.tmod_eq_emod_of_nonneg (by omega)]; omega
      have hr2 : (m : Int) % 2 = ((m % 2 : Nat) : Int) := by omega
      have hdl : decide (0 < m) = true := decide_eq_true hlt
      rcases Nat.mod_two_eq_zero_or_one m with ho | ho
      · have HN := hid (hI.even ho)
        rw [ho] at hr hr2
        have hmb : ((m % 2 : Nat) : Int) = 0 := by rw [ho]; rfl
        obtain ⟨m2, hm2⟩ : ∃ k, m / 2 = k := ⟨_, rfl⟩
        have hml : m2 < m := by omega
        rw [hm2] at hq hq2 HN
        clear hI hm2
        go_wp2_with (go_at_call 17; (with_reducible refine (HT.out y y hy hy _).mono ?_); rintro _ _ ⟨⟨e1, rfl⟩, rfl⟩)
        go_roundw
        case rel => exact ⟨x, _, m2, by omega, rfl, by go_num, by go_num, HN.out, ovA⟩
        case measure => (simp [intOf]; try omega)
      · have HN := hid (hI.odd ho)
        rw [ho] at hr hr2
        obtain ⟨m2, hm2⟩ : ∃ k, m / 2 = k := ⟨_, rfl⟩
        have hml : m2 < m := by omega
        rw [hm2] at hq hq2 HN
        clear hI hm2
        go_wp2_with (first
          | (go_at_call 17; (with_reducible refine (HT.out y y hy hy _).mono ?_); rintro _ _ ⟨⟨e1, rfl⟩, rfl⟩)
          | (go_at_call 17; (with_reducible refine (HT.out x y hx hy _).mono ?_); rintro _ _ ⟨⟨e2, rfl⟩, rfl⟩))
        go_roundw
        case rel => exact ⟨_, _, m2, by omega, by go_num, by go_num, by go_num, HN.out, ovA⟩
        case measure => (simp [intOf]; try omega)
    · obtain rfl : m = 0 := by omega
      have hx := hI.1
      have hf := HFI.out x y hI
      have HF := hid hf
      have hs : IntKind.u64.wrap ((x : Int) + (bm : Int)) = ((x + bm : Nat) : Int) := by simp only [IntKind.wrap_u64]; omega
      have hs2 : ((x + bm : Nat) : Int).tmod 2305843009213693951 = (((x + bm) % 2305843009213693951 : Nat) : Int) := by rw [Int.tmod_eq_emod_of_nonneg (Int.natCast_nonneg _)]; omega
      clear hI hf
      go_wp2
      go_ret
      exact ⟨ovA, by rw [← HF.out]; first | rfl | (congr 2; omega) | (simp; done)⟩
end Go.Proofs.YtnffcckhdedhpaaDoor
