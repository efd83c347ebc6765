import Derived.Test.YtnffcckhdedhpaaDoorHC
import Derived.Test.YtnffcckhdedhpaaDoorGB
import Derived.Test.YtnffcckhdedhpaaDoorGG
import Derived.Test.YtnffcckhdedhpaaDoorGA
namespace Go.Proofs.YtnffcckhdedhpaaDoor
set_option linter.unusedVariables false
set_option linter.unusedSimpArgs false
section
open Go.RowKit
attribute [local go_sem] over_drew chg_drew

structure TmI (a b i out x : Nat) : Prop where
  out : out = a * (b % 2 ^ i) % 2305843009213693951
  x : x = a * 2 ^ i % 2305843009213693951
theorem tm_step {a b i out x : Nat} (h : TmI a b i out x) : TmI a b (i + 1) ((if b.testBit i then (out + x) % 2305843009213693951 else out)) ((x + x) % 2305843009213693951) := by
  obtain ⟨rfl, rfl⟩ := h
  refine ⟨?_, ?_⟩
  · rw [Nat.mod_pow_succ, Nat.testBit_eq_decide_div_mod_eq]
    rcases Nat.mod_two_eq_zero_or_one (b / 2 ^ i) with h | h
    · rw [h]; simp
    · rw [h]; simp only [decide_true, if_true, Nat.mul_one, Nat.mul_add, ← Nat.add_mod]
  · rw [← Nat.add_mod, Nat.pow_succ, ← Nat.mul_assoc, Nat.mul_two]
theorem bit_64 {b k : Nat} (hb : b < 18446744073709551616) : (bits .and .u64 ((b : Int) / (2 : Int) ^ k) 1 == 1) = b.testBit k := by
  rw [cast_shr, and1_64 _ (shr_lt hb), bit_pp]
  cases b.testBit k <;> rfl
set_option maxRecDepth 100000 in
set_option maxHeartbeats 1000000 in
theorem rtimes_any (a b : Nat) (ha : a < 18446744073709551616) (hb : b < 18446744073709551616) (w : World) :
    Calls Tryd.prog 17 #[.int .u64 (a : Nat), .int .u64 (b : Nat)] w (Ret w (.int .u64 (a * b % 2305843009213693951 : Nat))) := by
  go_enter Tryd.func17, Tryd.ntmps17
  go_wp2
  have h0 : (a : Int).tmod 2305843009213693951 = ((a % 2305843009213693951 : Nat) : Int) := by rw [Int.tmod_eq_emod_of_nonneg (Int.natCast_nonneg a)]; omega
  have h1 : (a : Int) % 2305843009213693951 = ((a % 2305843009213693951 : Nat) : Int) := by omega
  go_loopw [0, 5, 6] (fun x o i wr => ∃ (k out y : Nat), k ≤ 64 ∧ i = .int .i64 (k : Nat) ∧ x = .int .u64 (y : Nat) ∧ o = .int .u64 (out : Nat) ∧ TmI a b k out y ∧ Ov w wr) (fun _ _ i _ => 64 - (intOf i).toNat)
  case atStart => exact ⟨0, 0, a % 2305843009213693951, by omega, rfl, by go_num, rfl, ⟨by simp [Nat.mod_one], by simp⟩, ovA⟩
  case round =>
    obtain ⟨k, out, y, hk, rfl, rfl, rfl, hI, ⟨e0, rfl⟩⟩ := hrel
    by_cases hlt : k < 64
    · have hn := tm_step hI
      have ho : out < 2305843009213693951 := by rw [hI.out]; exact Nat.mod_lt _ (by decide)
      have hy : y < 2305843009213693951 := by rw [hI.x]; exact Nat.mod_lt _ (by decide)
      have hbit := bit_64 (k := k) hb
      have HN := hid hn
      obtain ⟨B, hB⟩ : ∃ B, b.testBit k = B := ⟨_, rfl⟩
      rw [hB] at hbit
      have HB := hid hB
      clear hn hI hB
      cases B with
      | true =>
        go_wp2
        go_roundw
        case rel =>
          have h := HN.out
          rw [HB.out, if_pos rfl] at h
          exact ⟨k + 1, _, _, by omega, by go_num, by go_num, by go_num, h, ovA⟩
        case measure => (simp [intOf]; try omega)
      | false =>
        go_wp2
        go_roundw
        case rel =>
          have h := HN.out
          rw [HB.out, if_neg (by simp)] at h
          exact ⟨k + 1, _, _, by omega, by go_num, by go_num, rfl, h, ovA⟩
        case measure => (simp [intOf]; try omega)
    · obtain rfl : k = 64 := by omega
      have ho : out = a * b % 2305843009213693951 := by rw [hI.out, Nat.mod_eq_of_lt (show b < 2 ^ 64 by omega)]
      have HO := hid ho
      clear hI ho
      go_wp2
      go_ret
      exact ⟨ovA, by rw [← HO.out]; rfl⟩
end
end Go.Proofs.YtnffcckhdedhpaaDoor
