/- Walks: bit.Sound, at. -/
import Derived.Test.YthljlajdkdgieaaDoorRows
import Derived.Test.YthljlajdkdgieaaDoorBitP
import Derived.Test.YthljlajdkdgieaaDoorMem
import Derived.Test.YthljlajdkdgieaaDoorMix2
import Derived.Laws.BitsLemmas
namespace Go.Proofs.YthljlajdkdgieaaDoor
set_option linter.unusedVariables false
set_option linter.unusedSimpArgs false
open Go.RowKit

def bcs (b : Nat) : List Value := [.int .u8 b]
theorem bcs_len (b : Nat) : (bcs b).length = 1 := rfl
theorem bcs_one (b : Nat) : ∀ u ∈ bcs b, u.oneCell' = true := by intro u hu; simp [bcs] at hu; subst hu; rfl
abbrev SlB (w : World) (a : Option Addr) (cap : Nat) (xs : List Nat) : Prop := Sl 1 bcs w a cap xs
theorem SlB.at_ {w : World} {a : Option Addr} {cap : Nat} {xs : List Nat} (h : SlB w a cap xs) {k : Nat} (hk : k < xs.length) :
    ∃ b off, a = some ⟨b, off, none⟩ ∧ b < w.heap.size ∧ w.cell? ⟨b, off + k, none⟩ = some (.int .u8 (xs[k] : Nat)) := by
  obtain ⟨b, off, rfl, hb, hcell⟩ := h.rec_ k xs[k] (List.getElem?_eq_getElem hk)
  have := hcell 0 _ rfl
  rw [Nat.mul_one] at this
  exact ⟨b, off, rfl, hb, this⟩
abbrev bv (a : Option Addr) (n cap : Nat) (N : Int) : Value := .agg #[.slice a n cap, .int .i64 N]

/-! ### The machine's bit operations as Lean's -/

theorem wrap8 (n : Nat) (h : n < 256) : IntKind.u8.wrap (n : Int) = n := by simp [IntKind.wrap, IntKind.bits, IntKind.signed]; omega
theorem wrap64u (n : Nat) (h : n < 18446744073709551616) : IntKind.u64.wrap (n : Int) = n := by simp [IntKind.wrap, IntKind.bits, IntKind.signed]; omega
theorem w8 (n : Int) (h0 : 0 ≤ n) (h1 : n < 2 ^ 8) : IntKind.u8.wrap n = n := by simp [IntKind.wrap, IntKind.bits, IntKind.signed]; omega
theorem w64 (n : Int) (h0 : 0 ≤ n) (h1 : n < 2 ^ 64) : IntKind.u64.wrap n = n := by simp [IntKind.wrap, IntKind.bits, IntKind.signed]; omega
theorem or8 (a b : Nat) (ha : a < 256) (hb : b < 256) : bits .or .u8 (a : Int) (b : Int) = ((a ||| b : Nat) : Int) := (bits_nat .u8 8 (by decide) w8 a b ha hb).2
theorem and8 (a b : Nat) (ha : a < 256) (hb : b < 256) : bits .and .u8 (a : Int) (b : Int) = ((a &&& b : Nat) : Int) := (bits_nat .u8 8 (by decide) w8 a b ha hb).1
theorem or64 (a b : Nat) (ha : a < 18446744073709551616) (hb : b < 18446744073709551616) : bits .or .u64 (a : Int) (b : Int) = ((a ||| b : Nat) : Int) := (bits_nat .u64 64 (by decide) w64 a b ha hb).2
theorem and64 (a b : Nat) (ha : a < 18446744073709551616) (hb : b < 18446744073709551616) : bits .and .u64 (a : Int) (b : Int) = ((a &&& b : Nat) : Int) := (bits_nat .u64 64 (by decide) w64 a b ha hb).1
theorem bits_xor (k : IntKind) (hk : ∀ n : Int, 0 ≤ n → n < 2 ^ k.bits → k.wrap n = n) (a b : Nat) (ha : a < 2 ^ k.bits) (hb : b < 2 ^ k.bits) : bits .xor k a b = ((a ^^^ b : Nat) : Int) := by
  have ha' : a % 2 ^ k.bits = a := Nat.mod_eq_of_lt ha
  have hb' : b % 2 ^ k.bits = b := Nat.mod_eq_of_lt hb
  simp only [bits, BitVec.ofInt_natCast, BitVec.toNat_xor, BitVec.toNat_ofNat, ha', hb']
  exact hk _ (Int.natCast_nonneg _) (by exact_mod_cast Nat.xor_lt_two_pow ha hb)
theorem xor64 (a b : Nat) (ha : a < 18446744073709551616) (hb : b < 18446744073709551616) : bits .xor .u64 (a : Int) (b : Int) = ((a ^^^ b : Nat) : Int) := bits_xor .u64 w64 a b ha hb
theorem cast_shl8 (a k : Nat) : (a : Int) * 2 ^ k % 256 = ((a <<< k % 256 : Nat) : Int) := by rw [Nat.shiftLeft_eq]; simp
theorem cast_shl64 (a k : Nat) : (a : Int) * 2 ^ k % 18446744073709551616 = ((a <<< k % 18446744073709551616 : Nat) : Int) := by rw [Nat.shiftLeft_eq]; simp
theorem cast_shr (a k : Nat) : (a : Int) / 2 ^ k = ((a >>> k : Nat) : Int) := by rw [Nat.shiftRight_eq_div_pow]; simp
theorem shr_lt {a k n : Nat} (h : a < n) : a >>> k < n := Nat.lt_of_le_of_lt (by rw [Nat.shiftRight_eq_div_pow]; exact Nat.div_le_self _ _) h

set_option maxHeartbeats 400000 in
theorem bytes_any (N : Int) (h0 : 0 ≤ N) (h1 : N ≤ 9223372036854775807) (w : World) :
    Calls Tryd.prog 68 #[.int .i64 N] w (Ret w (.int .i64 ((N + 7) / 8))) := by
  go_enter Tryd.func68, Tryd.ntmps68
  go_wp2
  · go_ret
    exact ⟨(by (try unfold Ov); repeat (first | with_reducible exact ex_over | with_reducible exact over_self _ | with_reducible refine ex_undrew ?_ | with_reducible refine ex_into ?_ _ | with_reducible refine ex_alloc ?_ _ | with_reducible refine ex_drew ?_ | ((with_reducible refine ex_setCell ?_ ?_ _); rotate_left; (first | omega | (focus (simp; done)) | (focus (simp; omega)))) | ((with_reducible refine ex_chg ?_ _ ?_); rotate_left; (first | assumption | (exact Hid.out (by assumption)))) | exact ex_over)), ret_int (by omega)⟩
  · go_ret
    exact ⟨(by (try unfold Ov); repeat (first | with_reducible exact ex_over | with_reducible exact over_self _ | with_reducible refine ex_undrew ?_ | with_reducible refine ex_into ?_ _ | with_reducible refine ex_alloc ?_ _ | with_reducible refine ex_drew ?_ | ((with_reducible refine ex_setCell ?_ ?_ _); rotate_left; (first | omega | (focus (simp; done)) | (focus (simp; omega)))) | ((with_reducible refine ex_chg ?_ _ ?_); rotate_left; (first | assumption | (exact Hid.out (by assumption)))) | exact ex_over)), ret_int (by omega)⟩

theorem at_p1 {l : List Bool} {i : Nat} (hi : i < l.length) (hk : i % 8 = 0) (hq : i / 8 < (pack l).length) : (pack l)[i / 8] % 256 = oct fun j => l.getD (i + j) false := by
  rw [pack_get, Nat.mod_eq_of_lt (oct_lt _), show 8 * (i / 8) = i by omega]
theorem at_p2 {l : List Bool} {i : Nat} (hk : i % 8 ≠ 0) (hq : i / 8 < (pack l).length) (hn : i / 8 + 1 < (pack l).length) :
    (pack l)[i / 8] <<< (i % 8) % 256 ||| (pack l)[i / 8 + 1] >>> (8 - i % 8) = oct fun j => l.getD (i + j) false := by
  rw [pack_get, pack_get]
  have e256 : 256 = 2 ^ 8 := rfl
  apply byte_ext (Nat.or_lt_two_pow (n := 8) (Nat.mod_lt _ (by decide)) (shr_lt (oct_lt _))) (oct_lt _)
  intro k h
  rw [Nat.testBit_or, Nat.testBit_mod_two_pow, Nat.testBit_shiftLeft, Nat.testBit_shiftRight, oct_testBit, oct_testBit, oct_testBit, decide_eq_true h]
  simp only [Bool.true_and]
  by_cases h1 : i % 8 ≤ k
  · rw [decide_eq_true (show k ≥ i % 8 from h1), decide_eq_true (show k - i % 8 < 8 by omega), decide_eq_false (show ¬ 8 - i % 8 + k < 8 by omega)]
    simp only [Bool.true_and, Bool.false_and, Bool.or_false]
    congr 1; omega
  · rw [decide_eq_false (show ¬ k ≥ i % 8 from h1), decide_eq_true (show 8 - i % 8 + k < 8 by omega)]
    simp only [Bool.true_and, Bool.false_and, Bool.false_or]
    congr 1; omega
theorem at_p3 {l : List Bool} {i : Nat} (hk : i % 8 ≠ 0) (hq : i / 8 < (pack l).length) (hn : ¬ i / 8 + 1 < (pack l).length) :
    (pack l)[i / 8] <<< (i % 8) % 256 = oct fun j => l.getD (i + j) false := by
  rw [pack_get]
  apply byte_ext (Nat.mod_lt _ (by decide)) (oct_lt _)
  intro k h
  change (_ % 2 ^ 8).testBit k = _
  rw [Nat.testBit_mod_two_pow, Nat.testBit_shiftLeft, oct_testBit, oct_testBit, decide_eq_true h]
  simp only [Bool.true_and]
  rw [pack_length] at hn
  unfold nb at hn
  by_cases h1 : i % 8 ≤ k
  · rw [decide_eq_true (show k ≥ i % 8 from h1), decide_eq_true (show k - i % 8 < 8 by omega)]
    simp only [Bool.true_and]
    congr 1; omega
  · rw [decide_eq_false (show ¬ k ≥ i % 8 from h1), Bool.false_and, getD_ge (by omega)]

set_option maxHeartbeats 400000 in
theorem at_any (l : List Bool) (i : Nat) (hi : i < l.length) (hl : l.length ≤ 1000000) (a : Option Addr) (cap : Nat) (w : World) (hs : SlB w a cap (pack l)) :
    Calls Tryd.prog 71 #[bv a (pack l).length cap l.length, .int .i64 i] w (Ret w (.int .u8 (oct fun j => l.getD (i + j) false))) := by
  have hq : i / 8 < (pack l).length := by rw [pack_length]; unfold nb; omega
  obtain ⟨b, off, rfl, hb, c0⟩ := hs.at_ hq
  have hl0 := pack_lt _ (List.getElem_mem hq)
  by_cases hk : i % 8 = 0
  · have e := hid (at_p1 hi hk hq)
    go_enter Tryd.func71, Tryd.ntmps71
    go_wp2
    go_ret
    refine ⟨(by (try unfold Ov); repeat (first | with_reducible exact ex_over | with_reducible exact over_self _ | with_reducible refine ex_undrew ?_ | with_reducible refine ex_into ?_ _ | with_reducible refine ex_alloc ?_ _ | with_reducible refine ex_drew ?_ | ((with_reducible refine ex_setCell ?_ ?_ _); rotate_left; (first | omega | (focus (simp; done)) | (focus (simp; omega)))) | ((with_reducible refine ex_chg ?_ _ ?_); rotate_left; (first | assumption | (exact Hid.out (by assumption)))) | exact ex_over)), ret_int ?_⟩
    have := congrArg (Nat.cast (R := Int)) e.out
    simpa using this
  · by_cases hn : i / 8 + 1 < (pack l).length
    · obtain ⟨b', off', e0, _, c1⟩ := hs.at_ hn
      injection e0 with e0; injection e0 with e0 e1; subst e0 e1
      have hn1 : (i : Int) / 8 + 1 < ((pack l).length : Int) := by omega
      have hn2 : (i : Int) / 8 < ((pack l).length : Int) := by omega
      have e := hid (at_p2 hk hq hn)
      have hl1 := pack_lt _ (List.getElem_mem hn)
      go_enter Tryd.func71, Tryd.ntmps71
      go_wp2
      go_ret
      refine ⟨(by (try unfold Ov); repeat (first | with_reducible exact ex_over | with_reducible exact over_self _ | with_reducible refine ex_undrew ?_ | with_reducible refine ex_into ?_ _ | with_reducible refine ex_alloc ?_ _ | with_reducible refine ex_drew ?_ | ((with_reducible refine ex_setCell ?_ ?_ _); rotate_left; (first | omega | (focus (simp; done)) | (focus (simp; omega)))) | ((with_reducible refine ex_chg ?_ _ ?_); rotate_left; (first | assumption | (exact Hid.out (by assumption)))) | exact ex_over)), ret_int ?_⟩
      rw [cast_shl8, cast_shr, or8 _ _ (Nat.mod_lt _ (by decide)) (shr_lt hl1)]
      exact congrArg Nat.cast e.out
    · have hn1 : ¬ (i : Int) / 8 + 1 < ((pack l).length : Int) := by omega
      have e := hid (at_p3 hk hq hn)
      go_enter Tryd.func71, Tryd.ntmps71
      go_wp2
      go_ret
      refine ⟨(by (try unfold Ov); repeat (first | with_reducible exact ex_over | with_reducible exact over_self _ | with_reducible refine ex_undrew ?_ | with_reducible refine ex_into ?_ _ | with_reducible refine ex_alloc ?_ _ | with_reducible refine ex_drew ?_ | ((with_reducible refine ex_setCell ?_ ?_ _); rotate_left; (first | omega | (focus (simp; done)) | (focus (simp; omega)))) | ((with_reducible refine ex_chg ?_ _ ?_); rotate_left; (first | assumption | (exact Hid.out (by assumption)))) | exact ex_over)), ret_int ?_⟩
      rw [cast_shl8]
      exact congrArg Nat.cast e.out

theorem mask_and : ∀ k : Fin 8, ∀ b : Fin 256, (b.val &&& (255 >>> k.val)) = b.val % 2 ^ (8 - k.val) := by decide +kernel
theorem mask_and' {b k : Nat} (hb : b < 256) (hk : k < 8) : b &&& (255 >>> k) = b % 2 ^ (8 - k) := mask_and ⟨k, hk⟩ ⟨b, hb⟩

set_option maxHeartbeats 1000000 in
theorem sound_any (bs : List Nat) (hbs : ∀ b ∈ bs, b < 256) (hl : bs.length ≤ 1000000) (N : Int) (hN : -9223372036854775808 ≤ N ∧ N ≤ 9223372036854775807) (a : Option Addr) (cap : Nat) (w : World) (hs : SlB w a cap bs) :
    Calls Tryd.prog 37 #[bv a bs.length cap N] w (Ret w (.bool (soundB bs N))) := by
  obtain ⟨hN0, hN1⟩ := hN
  cases h0 : decide (N < 0)
  rotate_left
  · have g0 := of_decide_eq_true h0
    have e := hid (show soundB bs N = false by simp only [soundB]; rw [decide_eq_false (show ¬ 0 ≤ N by omega)]; rfl)
    clear g0
    go_enter Tryd.func37, Tryd.ntmps37
    go_wp2
    refine wp_region_over (by kernel_rfl) (by kernel_rfl) ?_
    repeat (go_big_quiet_step (fail))
    refine wpQuiet_nil ?_
    intro _ hw'
    obtain ⟨nq, rfl⟩ := hw'
    go_wp2
    go_ret
    exact ⟨(by (try unfold Ov); repeat (first | with_reducible exact ex_over | with_reducible exact over_self _ | with_reducible refine ex_undrew ?_ | with_reducible refine ex_into ?_ _ | with_reducible refine ex_alloc ?_ _ | with_reducible refine ex_drew ?_ | ((with_reducible refine ex_setCell ?_ ?_ _); rotate_left; (first | omega | (focus (simp; done)) | (focus (simp; omega)))) | ((with_reducible refine ex_chg ?_ _ ?_); rotate_left; (first | assumption | (exact Hid.out (by assumption)))) | exact ex_over)), ret_bool e.out.symm⟩
  have g0 := of_decide_eq_false h0
  have h0' : 0 ≤ N := by omega
  obtain ⟨N, rfl⟩ : ∃ n : Nat, N = n := ⟨N.toNat, by omega⟩
  have H0 := hid h0'
  have hB := hid (fun W => bytes_any N h0' hN1 W)
  clear g0 h0'
  cases h1 : ((bs.length : Int) != (N + 7) / 8)
  rotate_left
  · have e := hid (show soundB bs N = false by simp at h1; simp [soundB, h1])
    go_enter Tryd.func37, Tryd.ntmps37
    go_wp2
    refine wp_region_over (by kernel_rfl) (by kernel_rfl) ?_
    repeat (go_big_quiet_step ((go_at_call 68; exact quiet_over (hB.out _))))
    refine wpQuiet_nil ?_
    intro _ hw'
    obtain ⟨nq, rfl⟩ := hw'
    go_wp2
    go_ret
    exact ⟨(by (try unfold Ov); repeat (first | with_reducible exact ex_over | with_reducible exact over_self _ | with_reducible refine ex_undrew ?_ | with_reducible refine ex_into ?_ _ | with_reducible refine ex_alloc ?_ _ | with_reducible refine ex_drew ?_ | ((with_reducible refine ex_setCell ?_ ?_ _); rotate_left; (first | omega | (focus (simp; done)) | (focus (simp; omega)))) | ((with_reducible refine ex_chg ?_ _ ?_); rotate_left; (first | assumption | (exact Hid.out (by assumption)))) | exact ex_over)), ret_bool e.out.symm⟩
  have H1 := hid (show (bs.length : Int) = (N + 7) / 8 by simpa using h1)
  cases h2 : ((N : Int) % 8 == 0)
  rotate_left
  · have e := hid (show soundB bs N = true by have := H0.out; have := H1.out; simp at h2; simp [soundB, *])
    go_enter Tryd.func37, Tryd.ntmps37
    go_wp2
    refine wp_region_over (by kernel_rfl) (by kernel_rfl) ?_
    repeat (go_big_quiet_step ((go_at_call 68; exact quiet_over (hB.out _))))
    refine wpQuiet_nil ?_
    intro _ hw'
    obtain ⟨nq, rfl⟩ := hw'
    go_wp2
    refine wp_region_over (by kernel_rfl) (by kernel_rfl) ?_
    repeat (go_big_quiet_step (fail))
    refine wpQuiet_nil ?_
    intro _ hw'
    obtain ⟨nq, rfl⟩ := hw'
    go_wp2
    go_ret
    exact ⟨(by (try unfold Ov); repeat (first | with_reducible exact ex_over | with_reducible exact over_self _ | with_reducible refine ex_undrew ?_ | with_reducible refine ex_into ?_ _ | with_reducible refine ex_alloc ?_ _ | with_reducible refine ex_drew ?_ | ((with_reducible refine ex_setCell ?_ ?_ _); rotate_left; (first | omega | (focus (simp; done)) | (focus (simp; omega)))) | ((with_reducible refine ex_chg ?_ _ ?_); rotate_left; (first | assumption | (exact Hid.out (by assumption)))) | exact ex_over)), ret_bool e.out.symm⟩
  · have H2 := hid (show ¬ (N : Int) % 8 = 0 by simpa using h2)
    have hq : bs.length - 1 < bs.length := by have := H0.out; have := H1.out; have := H2.out; omega
    obtain ⟨b, off, rfl, hb, c0⟩ := hs.at_ hq
    have hb0 := hbs _ (List.getElem_mem hq)
    have e := hid (show soundB bs N = decide (bs[bs.length - 1] % 2 ^ (8 - ((N : Int) % 8).toNat) = 0) by
      simp only [soundB]; rw [decide_eq_true H0.out, decide_eq_true H1.out, decide_eq_false H2.out, List.getLastD_eq_getLast?, List.getLast?_eq_getElem?, List.getElem?_eq_getElem hq]; rfl)
    go_enter Tryd.func37, Tryd.ntmps37
    go_wp2
    refine wp_region_over (by kernel_rfl) (by kernel_rfl) ?_
    repeat (go_big_quiet_step ((go_at_call 68; exact quiet_over (hB.out _))))
    refine wpQuiet_nil ?_
    intro _ hw'
    obtain ⟨nq, rfl⟩ := hw'
    go_wp2
    refine wp_region_over (by kernel_rfl) (by kernel_rfl) ?_
    repeat (go_big_quiet_step (fail))
    refine wpQuiet_nil ?_
    intro _ hw'
    obtain ⟨nq, rfl⟩ := hw'
    go_wp2
    go_ret
    refine ⟨(by (try unfold Ov); repeat (first | with_reducible exact ex_over | with_reducible exact over_self _ | with_reducible refine ex_undrew ?_ | with_reducible refine ex_into ?_ _ | with_reducible refine ex_alloc ?_ _ | with_reducible refine ex_drew ?_ | ((with_reducible refine ex_setCell ?_ ?_ _); rotate_left; (first | omega | (focus (simp; done)) | (focus (simp; omega)))) | ((with_reducible refine ex_chg ?_ _ ?_); rotate_left; (first | assumption | (exact Hid.out (by assumption)))) | exact ex_over)), ret_bool ?_⟩
    have hm : (((N : Int) % 8).toNat) = N % 8 := by omega
    have h255 : (255 : Int) / (2 : Int) ^ (N % 8) = ((255 >>> (N % 8) : Nat) : Int) := cast_shr 255 (N % 8)
    rw [e.out, hm, h255, and8 _ _ hb0 (shr_lt (by decide)), mask_and' hb0 (Nat.mod_lt _ (by decide)), Bool.eq_iff_iff]
    rw [beq_iff_eq, decide_eq_true_eq]
    omega
end Go.Proofs.YthljlajdkdgieaaDoor
