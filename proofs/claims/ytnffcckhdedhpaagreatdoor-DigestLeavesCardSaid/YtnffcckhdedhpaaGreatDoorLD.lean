import Derived.Test.YtnffcckhdedhpaaGreatDoorHC
import Derived.Test.YtnffcckhdedhpaaGreatDoorGB
import Derived.Test.YtnffcckhdedhpaaGreatDoorGG
import Derived.Test.YtnffcckhdedhpaaGreatDoorGA
namespace Go.Proofs.YtnffcckhdedhpaaGreatDoor
set_option linter.unusedVariables false
set_option linter.unusedSimpArgs false
set_option maxRecDepth 100000
set_option maxHeartbeats 2000000
section
open Go.RowKit
attribute [local go_sem] odr cdr
structure TmI (a b i out x : Nat) : Prop where
 out : out = a * (b % 2 ^ i) % 2305843009213693951
 x : x = a * 2 ^ i % 2305843009213693951
theorem tm_step {a b i out x : Nat} (h : TmI a b i out x) : TmI a b (i + 1) ((if b.testBit i then (out + x) % 2305843009213693951 else out)) ((x + x) % 2305843009213693951) := by
 obtain ⟨rfl, rfl⟩ := h; refine ⟨?_, ?_⟩
 · rw [Nat.mod_pow_succ, Nat.testBit_eq_decide_div_mod_eq]; rcases Nat.mod_two_eq_zero_or_one (b / 2 ^ i) with h | h
   · rw [h]; simp
   · rw [h]; simp only [decide_true, if_true, Nat.mul_one, Nat.mul_add, ← Nat.add_mod]
 · rw [← Nat.add_mod, Nat.pow_succ, ← Nat.mul_assoc, Nat.mul_two]
theorem bit_64 {b k : Nat} (hb : b < 18446744073709551616) : (bits .and .u64 ((b : Int) / (2 : Int) ^ k) 1 == 1) = b.testBit k := by
 rw [cast_shr, and1_64 _ (shr_lt hb), bit_pp]; cases b.testBit k <;> rfl
theorem rtimes_any (a b : Nat) (ha : a < 18446744073709551616) (hb : b < 18446744073709551616) (w : World) :
    Calls Tryz.prog 113 #[.int .u64 (a : Nat), .int .u64 (b : Nat)] w (Ret w (.int .u64 (a * b % 2305843009213693951 : Nat))) := by
  go_enter Tryz.func113, Tryz.ntmps113; go_wp2; have h0 : (a : Int).tmod 2305843009213693951 = ((a % 2305843009213693951 : Nat) : Int) := by rw [Int.tmod_eq_emod_of_nonneg (Int.natCast_nonneg a)]; omega
  have h1 : (a : Int) % 2305843009213693951 = ((a % 2305843009213693951 : Nat) : Int) := by omega
  go_loopw [0, 5, 6] (fun x o i wr => ∃ (k out y : Nat), k ≤ 64 ∧ i = .int .i64 (k : Nat) ∧ x = .int .u64 (y : Nat) ∧ o = .int .u64 (out : Nat) ∧ TmI a b k out y ∧ Ov w wr) (fun _ _ i _ => 64 - (intOf i).toNat)
  case atStart => exact ⟨0, 0, a % 2305843009213693951, by omega, rfl, by go_num, rfl, ⟨by simp [Nat.mod_one], by simp⟩, ovA⟩
  case round =>
   obtain ⟨k, out, y, hk, rfl, rfl, rfl, hI, ⟨e0, rfl⟩⟩ := hrel; by_cases hlt : k < 64
   · have hn := tm_step hI; have ho : out < 2305843009213693951 := by rw [hI.out]; exact Nat.mod_lt _ (by decide)
     have hy : y < 2305843009213693951 := by rw [hI.x]; exact Nat.mod_lt _ (by decide)
     have hbit := bit_64 (k := k) hb; have HN := hid hn; obtain ⟨B, hB⟩ : ∃ B, b.testBit k = B := ⟨_, rfl⟩; rw [hB] at hbit; have HB := hid hB; clear hn hI hB; cases B with
     | true =>
      go_wp2; go_roundw
      case rel =>
       have h := HN.out; rw [HB.out, if_pos rfl] at h; exact ⟨k + 1, _, _, by omega, by go_num, by go_num, by go_num, h, ovA⟩
      case measure => (simp [intOf]; try omega)
     | false =>
      go_wp2; go_roundw
      case rel =>
       have h := HN.out; rw [HB.out, if_neg (by simp)] at h; exact ⟨k + 1, _, _, by omega, by go_num, by go_num, rfl, h, ovA⟩
      case measure => (simp [intOf]; try omega)
   · obtain rfl : k = 64 := by omega
     have ho : out = a * b % 2305843009213693951 := by rw [hI.out, Nat.mod_eq_of_lt (show b < 2 ^ 64 by omega)]
     have HO := hid ho; clear hI ho; go_wp2; go_ret
     exact ⟨ovA, by rw [← HO.out]; rfl⟩
theorem rnext_any (s : Nat) (hs : s < 18446744073709551616) (b : Bool) (w : World) :
    Calls Tryz.prog 95 #[.int .u64 (s : Nat), .bool b] w (Ret w (.int .u64 (nextR s b : Nat))) := by
  have HT : Hid (∀ W, Calls Tryz.prog 113 #[.int .u64 (s : Nat), .int .u64 1000000007] W (Ret W (.int .u64 (s * 1000000007 % 2305843009213693951 : Nat)))) := hid (fun W => rtimes_any s 1000000007 hs (by decide) W); have hn : nextR s b = (s * 1000000007 % 2305843009213693951 + (1 + b.toNat)) % 2305843009213693951 := by unfold nextR; rw [Nat.mod_add_mod]
  obtain ⟨t, ht⟩ : ∃ t, s * 1000000007 % 2305843009213693951 = t := ⟨_, rfl⟩; have htl : t < 2305843009213693951 := by rw [← ht]; exact Nat.mod_lt _ (by decide)
  rw [ht] at HT hn; rw [hn]; clear ht hn; cases b
  · go_enter Tryz.func95, Tryz.ntmps95; go_wp2_with (go_at_call 113; (with_reducible refine (HT.out _).mono ?_); rintro _ _ ⟨⟨e1, rfl⟩, rfl⟩)
    go_ret
    exact ⟨ovA, rfl⟩
  · go_enter Tryz.func95, Tryz.ntmps95; go_wp2_with (go_at_call 113; (with_reducible refine (HT.out _).mono ?_); rintro _ _ ⟨⟨e1, rfl⟩, rfl⟩)
    go_ret
    exact ⟨ovA, rfl⟩
theorem moreR_take' {s : Nat} {l : List Bool} {k : Nat} (h : k < l.length) : moreR s (l.take (k + 1)) = nextR (moreR s (l.take k)) l[k] := by
 have e : l.take (k + 1) = l.take k ++ [l[k]] := by
  rw [List.take_add_one, List.getElem?_eq_getElem h]; rfl
 rw [e, moreR_snoc]
theorem rmore_any (s : Nat) (hs : s < 18446744073709551616) (l : List Bool) (hl : l.length ≤ 900000) (a : Option Addr) (cap : Nat) (w : World) (hb : SlB w a cap (pack l)) :
    Calls Tryz.prog 66 #[.int .u64 (s : Nat), bv a (pack l).length cap l.length] w (Ret w (.tuple #[.int .u64 (moreR s l : Nat), .int .i64 0])) := by
  have HS := hid (fun W hW => rsound_any (pack l) pack_lt (pkl (by omega)) l.length (by omega) a cap W hW); rw [spk] at HS; have h1 : (s : Int) % 2305843009213693951 = (moreR s [] : Nat) := by
   rw [moreR_nil]; omega
  obtain ⟨s0, hs0⟩ : ∃ s0, moreR s [] = s0 := ⟨_, rfl⟩; rw [hs0] at h1; have H0 := hid hs0; clear hs0
  go_enter Tryz.func66, Tryz.ntmps66; go_wp2_with (go_at_call 63; (with_reducible refine (HS.out _ (by exact slA hb)).mono ?_); rintro _ _ ⟨⟨e1, rfl⟩, rfl⟩)
  have H1 := hid h1; clear h1
  go_loopw [0, 7] (fun s' i wr => ∃ (k : Nat), k ≤ l.length ∧ i = .int .i64 (k : Nat) ∧ s' = .int .u64 (moreR s (l.take k) : Nat) ∧ Ov (over (w.alloc (.cells #[.slice a (pack l).length cap, .int .i64 (l.length : Nat)] 49)) e1) wr) (fun _ i _ => l.length - (intOf i).toNat)
  case atStart => exact ⟨0, Nat.zero_le _, rfl, by rw [List.take_zero, H0.out, ← H1.out], ovA⟩
  case round =>
   obtain ⟨k, hk, rfl, rfl, ⟨e0, rfl⟩⟩ := hrel; by_cases hlt : k < l.length
   · have HN := hid (fun W => rnext_any (moreR s (l.take k)) (by have := moreR_lt s (l.take k); omega) l[k] W); have HM := hid (moreR_take' (s := s) hlt); rw [← HM.out] at HN; have HBit := hid (fun W (h : SlB W a cap (pack l)) => rbit_l l k hlt (by omega) l.length a cap W h); generalize moreR s (l.take k) = sk at *; generalize l[k] = B at *; cases B with
     | true =>
      have HB1 : Hid (∀ W, SlB W a cap (pack l) → Calls Tryz.prog 94 #[bv a (pack l).length cap l.length, .int .i64 (k : Nat)] W (Ret W (.int .u8 1))) := HBit; clear HBit; go_wp2_with (first | (go_at_call 94; (with_reducible refine (HB1.out _ (by exact slA hb)).mono ?_); rintro _ _ ⟨⟨e3, rfl⟩, rfl⟩) | (go_at_call 95; (with_reducible refine (HN.out _).mono ?_); rintro _ _ ⟨⟨e2, rfl⟩, rfl⟩))
      go_roundw
      case rel => exact ⟨k + 1, by omega, by go_num, rfl, ovA⟩
      case measure => (simp [intOf]; try omega)
     | false =>
      have HB1 : Hid (∀ W, SlB W a cap (pack l) → Calls Tryz.prog 94 #[bv a (pack l).length cap l.length, .int .i64 (k : Nat)] W (Ret W (.int .u8 0))) := HBit; clear HBit; go_wp2_with (first | (go_at_call 94; (with_reducible refine (HB1.out _ (by exact slA hb)).mono ?_); rintro _ _ ⟨⟨e3, rfl⟩, rfl⟩) | (go_at_call 95; (with_reducible refine (HN.out _).mono ?_); rintro _ _ ⟨⟨e2, rfl⟩, rfl⟩))
      go_roundw
      case rel => exact ⟨k + 1, by omega, by go_num, rfl, ovA⟩
      case measure => (simp [intOf]; try omega)
   · obtain rfl : k = l.length := by omega
     rw [List.take_length] at *; go_wp2_with fail
     go_ret2
     exact ⟨ovA, rfl⟩
end
end Go.Proofs.YtnffcckhdedhpaaGreatDoor
