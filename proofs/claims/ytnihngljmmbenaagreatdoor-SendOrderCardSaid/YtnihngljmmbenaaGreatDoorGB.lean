import Derived.Test.YtnihngljmmbenaaGreatDoorRows
import Derived.Test.YtnihngljmmbenaaGreatDoorGA
import Derived.Test.YtnihngljmmbenaaGreatDoorNI
import Derived.Test.YtnihngljmmbenaaGreatDoorMix2
import Derived.Laws.BitsLemmas
import Derived.Lib.BufferRead
namespace Go.Proofs.YtnihngljmmbenaaGreatDoor
set_option linter.unusedVariables false
set_option linter.unusedSimpArgs false
section
open Go.RowKit

def bcs (b : Nat) : List Value := [.int .u8 b]
theorem bcs_len (b : Nat) : (bcs b).length = 1 := rfl
theorem bcs_one (b : Nat) : ∀ u ∈ bcs b, u.oneCell' = true := by intro u hu; simp [bcs] at hu; subst hu; rfl
abbrev SlB (w : World) (a : Option Addr) (cap : Nat) (xs : List Nat) : Prop := Sl 1 bcs w a cap xs
theorem SlB.at_ {w : World} {a : Option Addr} {cap : Nat} {xs : List Nat} (h : SlB w a cap xs) {k : Nat} (hk : k < xs.length) :
    ∃ b off, a = some ⟨b, off, none⟩ ∧ b < w.heap.size ∧ w.cell? ⟨b, off + k, none⟩ = some (.int .u8 (xs[k] : Nat)) := by
  obtain ⟨b, off, rfl, hb, hcell⟩ := h.rec_ k xs[k] (List.getElem?_eq_getElem hk)
  have := hcell 0 _ rfl
  rw [Nat.mul_one] at this
  exact ⟨b, off, rfl, hb, this⟩
abbrev bv (a : Option Addr) (n cap : Nat) (N : Int) : Value := .agg #[.slice a n cap, .int .i64 N]

/-! ### The machine's bit operations as Lean's -/

theorem w8 (n : Int) (h0 : 0 ≤ n) (h1 : n < 2 ^ 8) : IntKind.u8.wrap n = n := by simp [IntKind.wrap, IntKind.bits, IntKind.signed]; omega
theorem w64 (n : Int) (h0 : 0 ≤ n) (h1 : n < 2 ^ 64) : IntKind.u64.wrap n = n := by simp [IntKind.wrap, IntKind.bits, IntKind.signed]; omega
theorem or8 (a b : Nat) (ha : a < 256) (hb : b < 256) : bits .or .u8 (a : Int) (b : Int) = ((a ||| b : Nat) : Int) := (bits_nat .u8 8 (by decide) w8 a b ha hb).2
theorem and8 (a b : Nat) (ha : a < 256) (hb : b < 256) : bits .and .u8 (a : Int) (b : Int) = ((a &&& b : Nat) : Int) := (bits_nat .u8 8 (by decide) w8 a b ha hb).1
theorem or64 (a b : Nat) (ha : a < 18446744073709551616) (hb : b < 18446744073709551616) : bits .or .u64 (a : Int) (b : Int) = ((a ||| b : Nat) : Int) := (bits_nat .u64 64 (by decide) w64 a b ha hb).2
theorem bits_xor (k : IntKind) (hk : ∀ n : Int, 0 ≤ n → n < 2 ^ k.bits → k.wrap n = n) (a b : Nat) (ha : a < 2 ^ k.bits) (hb : b < 2 ^ k.bits) : bits .xor k a b = ((a ^^^ b : Nat) : Int) := by
  have ha' : a % 2 ^ k.bits = a := Nat.mod_eq_of_lt ha
  have hb' : b % 2 ^ k.bits = b := Nat.mod_eq_of_lt hb
  simp only [bits, BitVec.ofInt_natCast, BitVec.toNat_xor, BitVec.toNat_ofNat, ha', hb']
  exact hk _ (Int.natCast_nonneg _) (by exact_mod_cast Nat.xor_lt_two_pow ha hb)
theorem xor64 (a b : Nat) (ha : a < 18446744073709551616) (hb : b < 18446744073709551616) : bits .xor .u64 (a : Int) (b : Int) = ((a ^^^ b : Nat) : Int) := bits_xor .u64 w64 a b ha hb
theorem cast_shl8 (a k : Nat) : (a : Int) * 2 ^ k % 256 = ((a <<< k % 256 : Nat) : Int) := by rw [Nat.shiftLeft_eq]; simp
theorem cast_shr (a k : Nat) : (a : Int) / 2 ^ k = ((a >>> k : Nat) : Int) := by rw [Nat.shiftRight_eq_div_pow]; simp
theorem shr_lt {a k n : Nat} (h : a < n) : a >>> k < n := Nat.lt_of_le_of_lt (by rw [Nat.shiftRight_eq_div_pow]; exact Nat.div_le_self _ _) h

set_option maxHeartbeats 400000 in
theorem bytes_any (N : Int) (h0 : 0 ≤ N) (h1 : N ≤ 9223372036854775807) (w : World) :
    Calls Tryz.prog 124 #[.int .i64 N] w (Ret w (.int .i64 ((N + 7) / 8))) := by
  go_enter Tryz.func124, Tryz.ntmps124
  go_wp2
  · go_ret
    exact ⟨ovA, ret_int (by omega)⟩
  · go_ret
    exact ⟨ovA, ret_int (by omega)⟩

theorem at_p1 {l : List Bool} {i : Nat} (hi : i < l.length) (hk : i % 8 = 0) (hq : i / 8 < (pack l).length) : (pack l)[i / 8] % 256 = oct fun j => l.getD (i + j) false := by
  rw [pack_get, Nat.mod_eq_of_lt (oct_lt _), show 8 * (i / 8) = i by omega]
theorem at_p2 {l : List Bool} {i : Nat} (hk : i % 8 ≠ 0) (hq : i / 8 < (pack l).length) (hn : i / 8 + 1 < (pack l).length) :
    (pack l)[i / 8] <<< (i % 8) % 256 ||| (pack l)[i / 8 + 1] >>> (8 - i % 8) = oct fun j => l.getD (i + j) false := by
  rw [pack_get, pack_get]
  have e256 : 256 = 2 ^ 8 := rfl
  apply byte_ext (Nat.or_lt_two_pow (n := 8) (Nat.mod_lt _ (by decide)) (shr_lt (oct_lt _))) (oct_lt _)
  intro k h
  rw [Nat.testBit_or, Nat.testBit_mod_two_pow, Nat.testBit_shiftLeft, Nat.testBit_shiftRight, oct_testBit, oct_testBit, oct_testBit, decide_eq_true h]
  simp only [Bool.true_and]
  by_cases h1 : i % 8 ≤ k
  · rw [decide_eq_true (show k ≥ i % 8 from h1), decide_eq_true (show k - i % 8 < 8 by omega), decide_eq_false (show ¬ 8 - i % 8 + k < 8 by omega)]
    simp only [Bool.true_and, Bool.false_and, Bool.or_false]
    congr 1; omega
  · rw [decide_eq_false (show ¬ k ≥ i % 8 from h1), decide_eq_true (show 8 - i % 8 + k < 8 by omega)]
    simp only [Bool.true_and, Bool.false_and, Bool.false_or]
    congr 1; omega
theorem at_p3 {l : List Bool} {i : Nat} (hk : i % 8 ≠ 0) (hq : i / 8 < (pack l).length) (hn : ¬ i / 8 + 1 < (pack l).length) :
    (pack l)[i / 8] <<< (i % 8) % 256 = oct fun j => l.getD (i + j) false := by
  rw [pack_get]
  apply byte_ext (Nat.mod_lt _ (by decide)) (oct_lt _)
  intro k h
  change (_ % 2 ^ 8).testBit k = _
  rw [Nat.testBit_mod_two_pow, Nat.testBit_shiftLeft, oct_testBit, oct_testBit, decide_eq_true h]
  simp only [Bool.true_and]
  rw [pack_length] at hn
  unfold nb at hn
  by_cases h1 : i % 8 ≤ k
  · rw [decide_eq_true (show k ≥ i % 8 from h1), decide_eq_true (show k - i % 8 < 8 by omega)]
    simp only [Bool.true_and]
    congr 1; omega
  · rw [decide_eq_false (show ¬ k ≥ i % 8 from h1), Bool.false_and, getD_ge (by omega)]

set_option maxHeartbeats 400000 in
theorem at_any (l : List Bool) (i : Nat) (hi : i < l.length) (hl : l.length ≤ 1000000) (a : Option Addr) (cap : Nat) (w : World) (hs : SlB w a cap (pack l)) :
    Calls Tryz.prog 89 #[bv a (pack l).length cap l.length, .int .i64 i] w (Ret w (.int .u8 (oct fun j => l.getD (i + j) false))) := by
  have hq : i / 8 < (pack l).length := by rw [pack_length]; unfold nb; omega
  obtain ⟨b, off, rfl, hb, c0⟩ := hs.at_ hq
  have hl0 := pack_lt _ (List.getElem_mem hq)
  by_cases hk : i % 8 = 0
  · have e := hid (at_p1 hi hk hq)
    go_enter Tryz.func89, Tryz.ntmps89
    go_wp2
    go_ret
    refine ⟨ovA, ret_int ?_⟩
    have := congrArg (Nat.cast (R := Int)) e.out
    simpa using this
  · by_cases hn : i / 8 + 1 < (pack l).length
    · obtain ⟨b', off', e0, _, c1⟩ := hs.at_ hn
      injection e0 with e0; injection e0 with e0 e1; subst e0 e1
      have hn1 : (i : Int) / 8 + 1 < ((pack l).length : Int) := by omega
      have hn2 : (i : Int) / 8 < ((pack l).length : Int) := by omega
      have e := hid (at_p2 hk hq hn)
      have hl1 := pack_lt _ (List.getElem_mem hn)
      go_enter Tryz.func89, Tryz.ntmps89
      go_wp2
      go_ret
      refine ⟨ovA, ret_int ?_⟩
      rw [cast_shl8, cast_shr, or8 _ _ (Nat.mod_lt _ (by decide)) (shr_lt hl1)]
      exact congrArg Nat.cast e.out
    · have hn1 : ¬ (i : Int) / 8 + 1 < ((pack l).length : Int) := by omega
      have e := hid (at_p3 hk hq hn)
      go_enter Tryz.func89, Tryz.ntmps89
      go_wp2
      go_ret
      refine ⟨ovA, ret_int ?_⟩
      rw [cast_shl8]
      exact congrArg Nat.cast e.out

theorem mask_and : ∀ k : Fin 8, ∀ b : Fin 256, (b.val &&& (255 >>> k.val)) = b.val % 2 ^ (8 - k.val) := by decide +kernel
theorem mask_and' {b k : Nat} (hb : b < 256) (hk : k < 8) : b &&& (255 >>> k) = b % 2 ^ (8 - k) := mask_and ⟨k, hk⟩ ⟨b, hb⟩

set_option maxHeartbeats 1000000 in
theorem sound_any (bs : List Nat) (hbs : ∀ b ∈ bs, b < 256) (hl : bs.length ≤ 1000000) (N : Int) (hN : -9223372036854775808 ≤ N ∧ N ≤ 9223372036854775807) (a : Option Addr) (cap : Nat) (w : World) (hs : SlB w a cap bs) :
    Calls Tryz.prog 87 #[bv a bs.length cap N] w (Ret w (.bool (soundB bs N))) := by
  obtain ⟨hN0, hN1⟩ := hN
  cases h0 : decide (N < 0)
  rotate_left
  · have g0 := of_decide_eq_true h0
    have e := hid (show soundB bs N = false by simp only [soundB]; rw [decide_eq_false (show ¬ 0 ≤ N by omega)]; rfl)
    clear g0
    go_enter Tryz.func87, Tryz.ntmps87
    go_wp2
    refine wp_region_over (by kernel_rfl) (by kernel_rfl) ?_
    repeat (go_big_quiet_step (fail))
    refine wpQuiet_nil ?_
    intro _ hw'
    obtain ⟨nq, rfl⟩ := hw'
    go_wp2
    go_ret
    exact ⟨ovA, ret_bool e.out.symm⟩
  have g0 := of_decide_eq_false h0
  have h0' : 0 ≤ N := by omega
  obtain ⟨N, rfl⟩ : ∃ n : Nat, N = n := ⟨N.toNat, by omega⟩
  have H0 := hid h0'
  have hB := hid (fun W => bytes_any N h0' hN1 W)
  clear g0 h0'
  cases h1 : ((bs.length : Int) != (N + 7) / 8)
  rotate_left
  · have e := hid (show soundB bs N = false by simp at h1; simp [soundB, h1])
    go_enter Tryz.func87, Tryz.ntmps87
    go_wp2
    refine wp_region_over (by kernel_rfl) (by kernel_rfl) ?_
    repeat (go_big_quiet_step ((go_at_call 124; exact quiet_over (hB.out _))))
    refine wpQuiet_nil ?_
    intro _ hw'
    obtain ⟨nq, rfl⟩ := hw'
    go_wp2
    go_ret
    exact ⟨ovA, ret_bool e.out.symm⟩
  have H1 := hid (show (bs.length : Int) = (N + 7) / 8 by simpa using h1)
  cases h2 : ((N : Int) % 8 == 0)
  rotate_left
  · have e := hid (show soundB bs N = true by have := H0.out; have := H1.out; simp at h2; simp [soundB, *])
    go_enter Tryz.func87, Tryz.ntmps87
    go_wp2
    refine wp_region_over (by kernel_rfl) (by kernel_rfl) ?_
    repeat (go_big_quiet_step ((go_at_call 124; exact quiet_over (hB.out _))))
    refine wpQuiet_nil ?_
    intro _ hw'
    obtain ⟨nq, rfl⟩ := hw'
    go_wp2
    refine wp_region_over (by kernel_rfl) (by kernel_rfl) ?_
    repeat (go_big_quiet_step (fail))
    refine wpQuiet_nil ?_
    intro _ hw'
    obtain ⟨nq, rfl⟩ := hw'
    go_wp2
    go_ret
    exact ⟨ovA, ret_bool e.out.symm⟩
  · have H2 := hid (show ¬ (N : Int) % 8 = 0 by simpa using h2)
    have hq : bs.length - 1 < bs.length := by have := H0.out; have := H1.out; have := H2.out; omega
    obtain ⟨b, off, rfl, hb, c0⟩ := hs.at_ hq
    have hb0 := hbs _ (List.getElem_mem hq)
    have e := hid (show soundB bs N = decide (bs[bs.length - 1] % 2 ^ (8 - ((N : Int) % 8).toNat) = 0) by
      simp only [soundB]; rw [decide_eq_true H0.out, decide_eq_true H1.out, decide_eq_false H2.out, List.getLastD_eq_getLast?, List.getLast?_eq_getElem?, List.getElem?_eq_getElem hq]; rfl)
    go_enter Tryz.func87, Tryz.ntmps87
    go_wp2
    refine wp_region_over (by kernel_rfl) (by kernel_rfl) ?_
    repeat (go_big_quiet_step ((go_at_call 124; exact quiet_over (hB.out _))))
    refine wpQuiet_nil ?_
    intro _ hw'
    obtain ⟨nq, rfl⟩ := hw'
    go_wp2
    refine wp_region_over (by kernel_rfl) (by kernel_rfl) ?_
    repeat (go_big_quiet_step (fail))
    refine wpQuiet_nil ?_
    intro _ hw'
    obtain ⟨nq, rfl⟩ := hw'
    go_wp2
    go_ret
    refine ⟨ovA, ret_bool ?_⟩
    have hm : (((N : Int) % 8).toNat) = N % 8 := by omega
    have h255 : (255 : Int) / (2 : Int) ^ (N % 8) = ((255 >>> (N % 8) : Nat) : Int) := cast_shr 255 (N % 8)
    rw [e.out, hm, h255, and8 _ _ hb0 (shr_lt (by decide)), mask_and' hb0 (Nat.mod_lt _ (by decide)), Bool.eq_iff_iff]
    rw [beq_iff_eq, decide_eq_true_eq]
    omega
end
section
open Go.RowKit

theorem bit_p {b k : Nat} (hk : k < 8) : (b >>> k) % 2 = (b.testBit k).toNat := by
  rw [Nat.testBit_eq_decide_div_mod_eq, Nat.shiftRight_eq_div_pow]
  rcases Nat.mod_two_eq_zero_or_one (b / 2 ^ k) with h | h <;> rw [h] <;> rfl

theorem and1_8 (x : Nat) (h : x < 256) : bits .and .u8 (x : Int) 1 = ((x % 2 : Nat) : Int) := by
  have := and8 x 1 h (by decide)
  rwa [Nat.and_one_is_mod] at this
end
section
open Go.RowKit

theorem byte_elem : ElemOf Tryz.prog 44 5 1 1 := elemOf (z := .int .u8 0) (by kernel_rfl) (by kernel_rfl) rfl (by decide)
def tcs (b : Bool) : List Value := [.int .u8 (b.toNat : Nat)]
abbrev SlT (w : World) (a : Option Addr) (cap : Nat) (xs : List Bool) : Prop := Sl 1 tcs w a cap xs
theorem SlT.at_ {w : World} {a : Option Addr} {cap : Nat} {xs : List Bool} (h : SlT w a cap xs) {k : Nat} (hk : k < xs.length) :
    ∃ b off, a = some ⟨b, off, none⟩ ∧ b < w.heap.size ∧ w.cell? ⟨b, off + k, none⟩ = some (.int .u8 (xs[k].toNat : Nat)) := by
  obtain ⟨b, off, rfl, hb, hcell⟩ := h.rec_ k xs[k] (List.getElem?_eq_getElem hk)
  have := hcell 0 _ rfl
  rw [Nat.mul_one] at this
  exact ⟨b, off, rfl, hb, this⟩
abbrev OwnT (base : Nat) (w : World) (v : Value) (l : List Bool) : Prop := Own base 5 1 tcs w v l
abbrev OwnB (base : Nat) (w : World) (v : Value) (l : List Nat) : Prop := Own base 5 1 bcs w v l

theorem getD_getElem {l : List Bool} {i : Nat} (h : i < l.length) : l.getD i false = l[i] := by
  rw [List.getD_eq_getElem?_getD, List.getElem?_eq_getElem h]; rfl
theorem pack_bit {l : List Bool} {i : Nat} (h : i / 8 < (pack l).length) : (pack l)[i / 8].testBit (7 - i % 8) = l.getD i false := by
  rw [pack_get, oct_testBit, decide_eq_true (by omega), Bool.true_and, show 8 * (i / 8) + (7 - (7 - i % 8)) = i by omega]
theorem pack_at {l : List Bool} {i : Nat} (h : i < l.length) : i / 8 < (pack l).length := by rw [pack_length]; unfold nb; omega
theorem pack_len_le {l : List Bool} {n : Nat} (h : l.length ≤ n) : (pack l).length ≤ n := by rw [pack_length]; unfold nb; omega

theorem take_succ_get {α : Type} {l : List α} {k : Nat} (h : k < l.length) : l.take k ++ [l[k]] = l.take (k + 1) := by
  rw [List.take_add_one, List.getElem?_eq_getElem h]; rfl

theorem OwnB.open_ {base : Nat} {w : World} {v : Value} {xs : List Nat} (h : OwnB base w v xs) {i : Nat} (hi : i < xs.length) :
    ∃ g cap, v = .slice (some ⟨g, 0, none⟩) xs.length cap ∧ base ≤ g ∧ g < w.heap.size ∧ w.cell? ⟨g, i, none⟩ = some (.int .u8 (xs[i] : Nat)) ∧ w.frozen? ⟨g, i, none⟩ = false := by
  obtain ⟨g, cap, h1, h2, h3, h4, h5⟩ := Own.open_ bcs_len h (by omega)
  have := h4 i xs[i] (List.getElem?_eq_getElem hi) 0 _ rfl
  rw [Nat.mul_one] at this
  exact ⟨g, cap, h1, h2, h3, this, h5 _⟩
theorem OwnB.set {base : Nat} {w : World} {g n cap : Nat} {xs : List Nat} (h : OwnB base w (.slice (some ⟨g, 0, none⟩) n cap) xs) {i : Nat} (hi : i < xs.length) {y : Nat} {u : Value} (hu : u = .int .u8 (y : Nat)) :
    OwnB base (w.setCell ⟨g, i, none⟩ u) (.slice (some ⟨g, 0, none⟩) n cap) (xs.set i y) := by
  subst hu
  have := Own.set_ (i := i) bcs_len h hi y 0 (.int .u8 (y : Nat)) rfl (by omega)
  rwa [Nat.mul_one] at this
end
section
open Go.RowKit

def WrAt (base : Nat) (w : World) (p : Nat) (l : List Bool) (F : List Nat) : Prop :=
  ∃ v, Blk w p [v, .int .i64 (l.length : Nat)] 188 ∧ OwnB base w v (pack l) ∧ base ≤ p ∧ v.ownBlock ≠ some p ∧ F = p :: v.ownBlock.toList
theorem WrAt.chg {base : Nat} {w w' : World} {p : Nat} {l : List Bool} {F G : List Nat} (h : WrAt base w p l F) (hc : Chg G w w') (hd : ∀ k ∈ F, k ∉ G) : WrAt base w' p l F := by
  obtain ⟨v, h1, h2, h3, h4, rfl⟩ := h
  exact ⟨v, h1.chg hc (hd p (by simp)), h2.chg hc (fun g hg => hd g (by simp [hg])), h3, h4, rfl⟩
theorem WrAt.lt {base : Nat} {w : World} {p : Nat} {l : List Bool} {F : List Nat} (h : WrAt base w p l F) : ∀ k ∈ F, base ≤ k ∧ k < w.heap.size := by
  obtain ⟨v, h1, h2, h3, h4, rfl⟩ := h
  intro k hk
  rcases List.mem_cons.1 hk with rfl | hk
  · exact ⟨h3, h1.lt⟩
  · exact h2.lt (by simpa using hk)
def WrDid (base : Nat) (w : World) (p : Nat) (F : List Nat) (l' : List Bool) (en : Ending) (w' : World) : Prop :=
  en = .returned (.tuple #[]) ∧ ∃ m F', w' = chg F w m ∧ WrAt base w' p l' F' ∧ ∀ k ∈ F', k ∈ F ∨ w.heap.size ≤ k
theorem WrDid.mk {base : Nat} {w w' : World} {p : Nat} {F F' : List Nat} {l' : List Bool} (hc : Chg F w w') (hw : WrAt base w' p l' F') (hF : ∀ k ∈ F', k ∈ F ∨ w.heap.size ≤ k) : WrDid base w p F l' (.returned (.tuple #[])) w' := by
  obtain ⟨m, hm⟩ := chg_of hc
  exact ⟨rfl, m, F', hm, hw, hF⟩

theorem mask_eq (b n : Nat) (hb : b < 256) : bits .and .u8 (b : Int) (255 * 2 ^ (8 - n) % 256) = ((mask b n : Nat) : Int) := by
  have := cast_shl8 255 (8 - n)
  have e : (255 : Int) * (2 : Int) ^ (8 - n) % (256 : Int) = ((255 <<< (8 - n) % 256 : Nat) : Int) := this
  rw [e, and8 _ _ hb (Nat.mod_lt _ (by decide))]; rfl

theorem Own.last {base : Nat} {w : World} {v : Value} {l : List Bool} (h : OwnB base w v (pack l)) (hk : l.length % 8 ≠ 0) :
    ∃ g cap, v = .slice (some ⟨g, 0, none⟩) (pack l).length cap ∧ base ≤ g ∧ g < w.heap.size ∧ w.cell? ⟨g, (pack l).length - 1, none⟩ = some (.int .u8 (((pack l)[(pack l).length - 1]'(lay_last hk) : Nat))) ∧ w.frozen? ⟨g, (pack l).length - 1, none⟩ = false :=
  OwnB.open_ h (lay_last hk)

set_option maxRecDepth 100000 in
set_option maxHeartbeats 2000000 in
theorem lay_0 {base : Nat} {w : World} {p : Nat} {l : List Bool} {F : List Nat} (h : WrAt base w p l F) (hl : l.length ≤ 1000000) (b n : Nat) (hb : b < 256) (hn : n ≤ 8) (hbw : base ≤ w.heap.size) (hk : l.length % 8 = 0) (h0 : 0 < n) :
    Calls Tryz.prog 88 #[.pointer (some ⟨p, 0, none⟩), .int .u8 (b : Nat), .int .i64 (n : Nat)] w (WrDid base w p F (l ++ hi b n)) := by
  obtain ⟨v, h1, h2, h3, h4, h5⟩ := h
  have hp := h1.lt
  have c0 := h1.cell 0 rfl
  have c1 := h1.cell 1 rfl
  have f0 := h1.free 0
  have f1 := h1.free 1
  have H1 := hid h1
  have H5 := hid h5
  have hpg : p ∉ v.ownBlock.toList := by simpa using fun h => h4 h
  have hq : w.heap.size ∉ v.ownBlock.toList := fun hm => by have := (Own.lt h2 (g := w.heap.size) (by simpa using hm)).2; omega
  have hq2 : v.ownBlock ≠ some w.heap.size := by simpa using hq
  have hpl : (pack l).length ≤ 1000000 := pack_len_le hl
  have hM := mask_eq b n hb
  clear h1 h5
  have hk' : (l.length : Int) % 8 = 0 := by omega
  have HP := hid (lay_p0 hk h0 hn (b := b))
  go_enter Tryz.func88, Tryz.ntmps88
  go_wp2_with (at_builtin; refine wpList_append' byte_elem bcs_len bcs_one rfl (.tmp 27) (.tmp 29) rfl (base := base) (v := v) (ys := pack l) (xs := [mask b n]) (by exact ownA h2) rfl rfl (by simp; omega) (Sl.one_new (y := mask b n) (by simp; try omega)) (by simp only [List.length_append, List.length_singleton]; unfold maxLen; omega) (by simp only [List.length_append, List.length_singleton]; omega) ?_; intro v' m hown' hv'; obtain ⟨g, c', rfl⟩ := Own.form1 hown')
  go_end0
  have hF := H5.out
  subst hF
  have hg : v.ownBlock = some g ∨ w.heap.size ≤ g := by
    rcases hv' with hv' | ⟨g', hv', hle⟩
    · left; rw [← hv']; rfl
    · right; simp [Value.ownBlock] at hv'; simp at hle; omega
  have hgp : g ≠ p := by
    rintro rfl
    rcases hg with hg | hg
    · exact h4 hg
    · omega
  rw [HP.out] at hown'
  refine WrDid.mk (by exact chA) ⟨.slice (some ⟨g, 0, none⟩) ((pack l).length + 1) c', ?_, (by exact ownA hown'), h3, by simp [Value.ownBlock]; exact hgp, rfl⟩ ?_
  · have hB := H1.out
    exact Blk.to (cs' := ([v, .int .i64 (l.length : Nat)].set 0 (.slice (some ⟨g, 0, none⟩) ((pack l).length + 1) c')).set 1 (.int .i64 ((l.length : Int) + n))) (by exact bkA) (by simp [hi_length])
  · intro k hk
    simp [Value.ownBlock] at hk ⊢
    rcases hk with rfl | rfl
    · exact .inl (.inl rfl)
    · rcases hg with hg | hg
      · exact .inl (.inr hg)
      · exact .inr hg

set_option maxRecDepth 100000 in
set_option maxHeartbeats 2000000 in
theorem lay_n {base : Nat} {w : World} {p : Nat} {l : List Bool} {F : List Nat} (h : WrAt base w p l F) (hl : l.length ≤ 1000000) (b : Nat) (hb : b < 256) (hbw : base ≤ w.heap.size) (hk : l.length % 8 = 0) :
    Calls Tryz.prog 88 #[.pointer (some ⟨p, 0, none⟩), .int .u8 (b : Nat), .int .i64 0] w (WrDid base w p F l) := by
  obtain ⟨v, h1, h2, h3, h4, h5⟩ := h
  have hp := h1.lt
  have c0 := h1.cell 0 rfl
  have c1 := h1.cell 1 rfl
  have f0 := h1.free 0
  have f1 := h1.free 1
  have H1 := hid h1
  have H5 := hid h5
  clear h1 h5
  have hk' : (l.length : Int) % 8 = 0 := by omega
  go_enter Tryz.func88, Tryz.ntmps88
  go_wp2
  go_end0
  have hF := H5.out
  subst hF
  refine WrDid.mk (by exact chA) ⟨v, ?_, (by exact ownA h2), h3, h4, rfl⟩ (fun k hk => .inl hk)
  have hB := H1.out
  exact Blk.to (cs' := [v, .int .i64 (l.length : Nat)].set 1 (.int .i64 ((l.length : Int)))) (by exact bkA) (by simp)

set_option maxRecDepth 100000 in
set_option maxHeartbeats 2000000 in
theorem lay_1 {base : Nat} {w : World} {p : Nat} {l : List Bool} {F : List Nat} (h : WrAt base w p l F) (hl : l.length ≤ 1000000) (b n : Nat) (hb : b < 256) (hn : n ≤ 8) (hbw : base ≤ w.heap.size) (hk : l.length % 8 ≠ 0) (h8 : n ≤ 8 - l.length % 8) :
    Calls Tryz.prog 88 #[.pointer (some ⟨p, 0, none⟩), .int .u8 (b : Nat), .int .i64 (n : Nat)] w (WrDid base w p F (l ++ hi b n)) := by
  obtain ⟨v, h1, h2, h3, h4, h5⟩ := h
  have hp := h1.lt
  have c0 := h1.cell 0 rfl
  have c1 := h1.cell 1 rfl
  have f0 := h1.free 0
  have f1 := h1.free 1
  have H1 := hid h1
  have H5 := hid h5
  have hpg : p ∉ v.ownBlock.toList := by simpa using fun h => h4 h
  have hq : w.heap.size ∉ v.ownBlock.toList := fun hm => by have := (Own.lt h2 (g := w.heap.size) (by simpa using hm)).2; omega
  have hq2 : v.ownBlock ≠ some w.heap.size := by simpa using hq
  have hpl : (pack l).length ≤ 1000000 := pack_len_le hl
  have hM := mask_eq b n hb
  clear h1 h5
  obtain ⟨g, cp, rfl, hg1, hg2, cg, fg⟩ := Own.last h2 hk
  have hgp : p ≠ g := by intro e; exact h4 (by rw [e]; rfl)
  have hgp' : g ≠ p := fun e => hgp e.symm
  have hL := pack_lt _ (List.getElem_mem (lay_last hk))
  have hq3 : (pack l).length - 1 < (pack l).length := lay_last hk
  have hq4 : 0 < (pack l).length := by omega
  have HP := hid (lay_p1 hk hn h8 (b := b))
  have hk' : ¬ (l.length : Int) % 8 = 0 := by omega
  have h8' : ¬ 8 - ((l.length % 8 : Nat) : Int) < (n : Int) := by omega
  go_enter Tryz.func88, Tryz.ntmps88
  go_wp2
  refine M2.wp_region_mix [19] 19 (by kernel_rfl) (by kernel_rfl) (by decide) ?_
  simp only [M2.td]
  with_reducible refine M2.mixL_quiet 19 (by kernel_rfl) ?_
  simp only [M2.td]
  repeat (go_big_quiet_step (fail))
  with_reducible refine wpQuiet_nil ?_
  with_reducible refine M2.mixL_nil ?_
  with_reducible refine M2.mixL_eff (by decide) ?_
  go_wp2_with (fail)
  refine M2.MixQ.mk trivial ?_
  with_reducible refine M2.mixL_nil ?_
  go_wp2_with fail
  go_end0
  have hF : F = [p, g] := H5.out
  subst hF
  refine WrDid.mk (by exact chA) ⟨.slice (some ⟨g, 0, none⟩) (pack l).length cp, ?_, ?_, h3, h4, rfl⟩ (fun k hk => .inl hk)
  · have hB := H1.out
    exact Blk.to (cs' := [.slice (some ⟨g, 0, none⟩) (pack l).length cp, .int .i64 (l.length : Nat)].set 1 (.int .i64 ((l.length : Int) + n))) (by exact bkA) (by simp [hi_length])
  · rw [← HP.out]
    refine Own.set_ne (OwnB.set (Own.drew h2) (lay_last hk) ?_) (by simpa [Value.ownBlock] using hgp') _
    rw [cast_shr, or8 _ _ hL (shr_lt (mask_lt _ _))]

set_option maxRecDepth 100000 in
set_option maxHeartbeats 2000000 in
theorem lay_2 {base : Nat} {w : World} {p : Nat} {l : List Bool} {F : List Nat} (h : WrAt base w p l F) (hl : l.length ≤ 1000000) (b n : Nat) (hb : b < 256) (hn : n ≤ 8) (hbw : base ≤ w.heap.size) (hk : l.length % 8 ≠ 0) (h8 : 8 - l.length % 8 < n) :
    Calls Tryz.prog 88 #[.pointer (some ⟨p, 0, none⟩), .int .u8 (b : Nat), .int .i64 (n : Nat)] w (WrDid base w p F (l ++ hi b n)) := by
  obtain ⟨v, h1, h2, h3, h4, h5⟩ := h
  have hp := h1.lt
  have c0 := h1.cell 0 rfl
  have c1 := h1.cell 1 rfl
  have f0 := h1.free 0
  have f1 := h1.free 1
  have H1 := hid h1
  have H5 := hid h5
  have hpg : p ∉ v.ownBlock.toList := by simpa using fun h => h4 h
  have hq : w.heap.size ∉ v.ownBlock.toList := fun hm => by have := (Own.lt h2 (g := w.heap.size) (by simpa using hm)).2; omega
  have hq2 : v.ownBlock ≠ some w.heap.size := by simpa using hq
  have hpl : (pack l).length ≤ 1000000 := pack_len_le hl
  have hM := mask_eq b n hb
  clear h1 h5
  obtain ⟨g, cp, rfl, hg1, hg2, cg, fg⟩ := Own.last h2 hk
  have hgp : p ≠ g := by intro e; exact h4 (by rw [e]; rfl)
  have hgp' : g ≠ p := fun e => hgp e.symm
  have hL := pack_lt _ (List.getElem_mem (lay_last hk))
  have hq3 : (pack l).length - 1 < (pack l).length := lay_last hk
  have hq4 : 0 < (pack l).length := by omega
  have HP := hid (lay_p2 hk hn h8 (b := b))
  have hk' : ¬ (l.length : Int) % 8 = 0 := by omega
  have h8' : 8 - ((l.length % 8 : Nat) : Int) < (n : Int) := by omega
  obtain ⟨BS, hBS⟩ : ∃ BS, BS = (pack l).set ((pack l).length - 1) ((pack l)[(pack l).length - 1]'(lay_last hk) ||| mask b n >>> (l.length % 8)) := ⟨_, rfl⟩
  have HBS := hid hBS
  rw [← hBS] at HP
  have hbl : BS.length = (pack l).length := by rw [hBS, List.length_set]
  clear hBS
  have HBL := hid hbl
  clear hbl
  obtain ⟨Y, hY⟩ : ∃ Y, Y = mask b n <<< (8 - l.length % 8) % 256 := ⟨_, rfl⟩
  have hS : ((mask b n : Nat) : Int) * 2 ^ (8 - l.length % 8) % 256 = (Y : Int) := by rw [hY]; exact cast_shl8 _ _
  rw [← hY] at HP
  clear hY
  go_enter Tryz.func88, Tryz.ntmps88
  go_wp2
  refine M2.wp_region_mix [19] 19 (by kernel_rfl) (by kernel_rfl) (by decide) ?_
  simp only [M2.td]
  with_reducible refine M2.mixL_quiet 19 (by kernel_rfl) ?_
  simp only [M2.td]
  repeat (go_big_quiet_step (fail))
  with_reducible refine wpQuiet_nil ?_
  with_reducible refine M2.mixL_nil ?_
  with_reducible refine M2.mixL_eff (by decide) ?_
  go_wp2_with (fail)
  refine M2.MixQ.mk trivial ?_
  with_reducible refine M2.mixL_nil ?_
  have hown0 : OwnB base (w.setCell ⟨g, (pack l).length - 1, none⟩ (.int .u8 (bits .or .u8 ((pack l)[(pack l).length - 1] : Nat) (((mask b n : Nat) : Int) / 2 ^ (l.length % 8))))) (.slice (some ⟨g, 0, none⟩) (pack l).length cp) BS := by
    have := OwnB.set h2 (lay_last hk) (y := ((pack l)[(pack l).length - 1]'(lay_last hk) ||| mask b n >>> (l.length % 8))) (u := .int .u8 (bits .or .u8 ((pack l)[(pack l).length - 1] : Nat) (((mask b n : Nat) : Int) / 2 ^ (l.length % 8)))) (by rw [cast_shr, or8 _ _ hL (shr_lt (mask_lt _ _))])
    rwa [← HBS.out] at this
  go_wp2_with fail
  refine M2.wp_region_mix [10, 11, 15] 11 (by kernel_rfl) (by kernel_rfl) (by decide) ?_
  simp only [M2.td]
  with_reducible refine M2.mixL_quiet 10 (by kernel_rfl) ?_
  simp only [M2.td]
  repeat (go_big_quiet_step (fail))
  with_reducible refine wpQuiet_nil ?_
  with_reducible refine M2.mixL_eff (by decide) ?_
  go_wp2_with (fail)
  refine M2.MixQ.mk ovA ?_
  with_reducible refine M2.mixL_nil ?_
  with_reducible refine M2.mixL_eff (by decide) ?_
  go_wp2_with ((at_builtin; refine wpList_append' byte_elem bcs_len bcs_one rfl (.tmp 62) (.tmp 67) rfl (base := base) (v := .slice (some ⟨g, 0, none⟩) (pack l).length cp) (ys := BS) (xs := [Y]) (by exact ownA hown0) rfl rfl (by simp; omega) (by (repeat with_reducible refine Sl.drew ?_); exact Sl.one_new (y := Y) (by simp; try omega)) (by have := HBL.out; simp only [List.length_append, List.length_singleton]; unfold maxLen; omega) (by have := HBL.out; simp only [List.length_append, List.length_singleton]; omega) ?_; intro v' m hown' hv'; obtain ⟨g2, c', rfl⟩ := Own.form1 hown'))
  refine M2.MixQ.mk trivial ?_
  with_reducible refine M2.mixL_quiet 3 (by kernel_rfl) ?_
  simp only [M2.td]
  repeat (go_big_quiet_step (fail))
  with_reducible refine wpQuiet_nil ?_
  with_reducible refine M2.mixL_eff (by decide) ?_
  go_wp2_with (fail)
  refine M2.MixQ.mk trivial ?_
  with_reducible refine M2.mixL_nil ?_
  go_wp2_with fail
  go_end0
  have hF : F = [p, g] := H5.out
  subst hF
  have hg : g2 = g ∨ w.heap.size ≤ g2 := by
    rcases hv' with hv' | ⟨g', hv', hle⟩
    · left; simpa [Value.ownBlock] using hv'
    · right; simp [Value.ownBlock] at hv'; simp at hle; omega
  have hgp2 : g2 ≠ p := by
    rintro rfl
    rcases hg with hg | hg
    · exact hgp hg
    · omega
  rw [HP.out] at hown'
  have oe : (Value.slice (some ⟨g, 0, none⟩) (pack l).length cp).ownBlock.toList = [g] := rfl
  rw [oe] at hown' ⊢
  refine WrDid.mk (by exact chA) ⟨.slice (some ⟨g2, 0, none⟩) (BS.length + 1) c', ?_, (by exact ownA hown'), h3, by simp [Value.ownBlock]; exact hgp2, rfl⟩ ?_
  · have hB := H1.out
    exact Blk.to (cs' := ([.slice (some ⟨g, 0, none⟩) (pack l).length cp, .int .i64 (l.length : Nat)].set 0 (.slice (some ⟨g2, 0, none⟩) (BS.length + 1) c')).set 1 (.int .i64 ((l.length : Int) + n))) (by exact bkA) (by simp [hi_length])
  · intro k hk
    simp [Value.ownBlock] at hk ⊢
    rcases hk with rfl | rfl
    · exact .inl (.inl rfl)
    · rcases hg with hg | hg
      · exact .inl (.inr hg)
      · exact .inr hg
end
section
open Go.RowKit

theorem WrAt.same {base : Nat} {w : World} {p : Nat} {l l' : List Bool} {F : List Nat} (h : WrAt base w p l F) (e : l = l') : WrAt base w p l' F := e ▸ h
theorem lay_any {base : Nat} {w : World} {p : Nat} {l : List Bool} {F : List Nat} (h : WrAt base w p l F) (hl : l.length ≤ 1000000) (b n : Nat) (hb : b < 256) (hn : n ≤ 8) (hbw : base ≤ w.heap.size) :
    Calls Tryz.prog 88 #[.pointer (some ⟨p, 0, none⟩), .int .u8 (b : Nat), .int .i64 (n : Nat)] w (WrDid base w p F (l ++ hi b n)) := by
  by_cases hk : l.length % 8 = 0
  · by_cases h0 : 0 < n
    · exact lay_0 h hl b n hb hn hbw hk h0
    · obtain rfl : n = 0 := by omega
      rw [hi_zero, List.append_nil]
      exact lay_n h hl b hb hbw hk
  · by_cases h8 : n ≤ 8 - l.length % 8
    · exact lay_1 h hl b n hb hn hbw hk h8
    · exact lay_2 h hl b n hb hn hbw hk (by omega)

theorem lay_any8 {base : Nat} {w : World} {p : Nat} {l : List Bool} {F : List Nat} (h : WrAt base w p l F) (hl : l.length ≤ 1000000) (b : Nat) (hb : b < 256) (hbw : base ≤ w.heap.size) :
    Calls Tryz.prog 88 #[.pointer (some ⟨p, 0, none⟩), .int .u8 (b : Nat), .int .i64 8] w (WrDid base w p F (l ++ hi b 8)) := lay_any h hl b 8 hb (Nat.le_refl _) hbw

theorem num_more {v k n W : Nat} (hn : n ≤ 8) (hk : n ≤ k) (hW : k ≤ W) : num (v >>> k) (W - k) ++ hi (v >>> (k - n) <<< (8 - n) % 256) n = num (v >>> (k - n)) (W - (k - n)) := by
  have h1 := num_split (v >>> (k - n)) (W - k) n
  have h2 := num_split v n (k - n)
  rw [show n + (k - n) = k by omega] at h2
  rw [num_hi hk hn, h2, List.take_left' (num_length _ _), show W - (k - n) = W - k + n by omega, h1, ← Nat.shiftRight_add, show k - n + n = k by omega]

def NumRel (base : Nat) (F : List Nat) (w : World) (p : Nat) (l : List Bool) (wr : World) : Prop := ∃ m F', wr = chg F w m ∧ WrAt base wr p l F' ∧ ∀ i ∈ F', i ∈ F ∨ w.heap.size ≤ i
theorem NumRel.step {base : Nat} {F : List Nat} {w : World} {p : Nat} {l' : List Bool} {wr w' : World} {F1 F2 : List Nat} (hF1 : ∀ i ∈ F1, i ∈ F ∨ w.heap.size ≤ i) (hc : Chg F w wr) {m : Mut} (hw' : w' = chg F1 wr m) (h : WrAt base w' p l' F2) (hF2 : ∀ k ∈ F2, k ∈ F1 ∨ wr.heap.size ≤ k) : NumRel base F w p l' w' := by
  have hc2 : Chg F w w' := by rw [hw']; exact hc.in_ m hF1
  obtain ⟨m', hm'⟩ := chg_of hc2
  refine ⟨m', F2, hm', h, fun i hi => ?_⟩
  rcases hF2 i hi with h1 | h1
  · exact hF1 i h1
  · have := hc.size; omega

theorem num_e1 (v k : Nat) : IntKind.u64.wrap ((v : Int) * 2 ^ (8 - k)) % 256 = ((v >>> (k - k) <<< (8 - k) % 256 : Nat) : Int) := by
  rw [IntKind.wrap_u64, Nat.sub_self, Nat.shiftRight_zero, ← cast_shl8]
  exact Int.emod_emod_of_dvd _ (by decide)
theorem num_e2 (v k : Nat) : IntKind.u64.wrap ((v : Int) / (2 : Int) ^ (k - 8)) % 256 = ((v >>> (k - 8) <<< (8 - 8) % 256 : Nat) : Int) := by
  rw [IntKind.wrap_u64, Nat.sub_self, Nat.shiftLeft_zero, cast_shr, Int.emod_emod_of_dvd _ (by decide)]; rfl

set_option maxRecDepth 100000 in
set_option maxHeartbeats 2000000 in
theorem number_any {base : Nat} {w : World} {p : Nat} {l : List Bool} {F : List Nat} (h : WrAt base w p l F) (hl : l.length ≤ 900000) (v W : Nat) (hv : v < 18446744073709551616) (hW : W ≤ 64) (hbw : base ≤ w.heap.size) :
    Calls Tryz.prog 139 #[.pointer (some ⟨p, 0, none⟩), .int .u64 (v : Nat), .int .i64 (W : Nat)] w (WrDid base w p F (l ++ num v W)) := by
  have H := hid h
  clear h
  go_enter Tryz.func139, Tryz.ntmps139
  go_wp2
  go_loopw [2] (fun i wr => ∃ (k : Nat), k ≤ W ∧ i = .int .i64 k ∧ NumRel base F w p (l ++ num (v >>> k) (W - k)) wr) (fun i _ => (intOf i).toNat)
  case atStart =>
    obtain ⟨m, hm⟩ := chg_of (Chg.refl F w)
    exact ⟨W, Nat.le_refl _, rfl, m, F, hm, H.out.same (by rw [Nat.sub_self, num_zero, List.append_nil]), fun i hi => .inl hi⟩
  case round =>
    obtain ⟨k, hk, rfl, m, F', rfl, hw, hF⟩ := hrel
    have HF := hid hF
    clear hF
    by_cases hlt : 0 < k
    · by_cases h8 : k ≤ 8
      · obtain ⟨Y, hY⟩ : ∃ Y, Y = v >>> (k - k) <<< (8 - k) % 256 := ⟨_, rfl⟩
        have hS : IntKind.u64.wrap ((v : Int) * 2 ^ (8 - k)) % 256 = (Y : Int) := by rw [hY]; exact num_e1 v k
        have HC := hid (lay_any hw (by rw [List.length_append, num_length]; omega) Y k (by omega) (by omega) (by simp; omega))
        have HY := hid hY
        clear hY hw
        go_wp2_with (go_at_call 88; (with_reducible refine (HC.out).mono ?_); rintro _ _ ⟨rfl, m2, F2, rfl, hw2, hF2⟩)
        go_roundw
        case rel =>
          have hw3 := hw2.same (l' := l ++ num (v >>> (k - k)) (W - (k - k))) (by rw [HY.out, List.append_assoc, num_more (by omega) (Nat.le_refl _) hk])
          exact ⟨k - k, by omega, by go_num, NumRel.step HF.out (chg_chg _ _ _) rfl hw3 hF2⟩
        case measure => simp [intOf]; omega
      · have h9 : 8 < k := by omega
        obtain ⟨Y, hY⟩ : ∃ Y, Y = v >>> (k - 8) <<< (8 - 8) % 256 := ⟨_, rfl⟩
        have hS : IntKind.u64.wrap ((v : Int) / (2 : Int) ^ (k - 8)) % 256 = (Y : Int) := by rw [hY]; exact num_e2 v k
        have HC := hid (lay_any8 hw (by rw [List.length_append, num_length]; omega) Y (by omega) (by simp; omega))
        have HY := hid hY
        clear hY hw
        go_wp2_with (go_at_call 88; (with_reducible refine (HC.out).mono ?_); rintro _ _ ⟨rfl, m2, F2, rfl, hw2, hF2⟩)
        go_roundw
        case rel =>
          have hw3 := hw2.same (l' := l ++ num (v >>> (k - 8)) (W - (k - 8))) (by rw [HY.out, List.append_assoc, num_more (by omega) (by omega) hk])
          exact ⟨k - 8, by omega, by go_num, NumRel.step HF.out (chg_chg _ _ _) rfl hw3 hF2⟩
        case measure => simp [intOf]; omega
    · obtain rfl : k = 0 := by omega
      go_wp2
      go_end0
      exact ⟨rfl, m, F', rfl, hw.same (by rw [Nat.shiftRight_zero, Nat.sub_zero]), HF.out⟩
end
section
open Go.RowKit

set_option maxHeartbeats 400000 in
theorem cloneB_any (xs : List Nat) (a : Option Addr) (cap : Nat) (w : World) (hs : SlB w a cap xs) (hb : xs.length ≤ 2000000) :
    Calls Tryz.prog 165 #[.slice a xs.length cap] w (Gives w fun v w' => OwnB w.heap.size w' v xs) := by
  rcases a with _ | ad
  · obtain rfl : cap = 0 := hs.nul rfl
    obtain rfl : xs = [] := by
      cases xs with
      | nil => rfl
      | cons x l => obtain ⟨b, off, h, _⟩ := hs.rec_ 0 x rfl; cases h
    have q := fun (W : World) => run_eql_slice_nil0 (P := Tryz.prog) (t := 44) byte_elem.ht W none 0 0
    go_enter Tryz.func165, Tryz.ntmps165
    go_wp2
    go_ret
    exact ⟨over_self w, _, rfl, Own.nil w⟩
  · have q := fun (W : World) => run_eql_slice_nil0 (P := Tryz.prog) (t := 44) byte_elem.ht W (some ad) xs.length cap
    go_enter Tryz.func165, Tryz.ntmps165
    go_wp2_with (at_builtin; refine wpList_append byte_elem bcs_len bcs_one rfl (.tmp 5) (.tmp 6) rfl (B := w) (ys := []) (xs := xs) (Own.made _) rfl rfl (over_self _) ovA (Nat.le_refl _) (by simp) (by exact slA hs) (by unfold maxLen; simp; omega) (by simp; omega) ?_; intro v' x' hown' _ _)
    go_ret
    exact ⟨ovA, _, rfl, hown'⟩

def WrNew (w : World) (l : List Bool) (en : Ending) (w' : World) : Prop := ∃ p F, en = .returned (.pointer (some ⟨p, 0, none⟩)) ∧ (∃ e, w' = over w e) ∧ WrAt w.heap.size w' p l F

set_option maxRecDepth 100000 in
set_option maxHeartbeats 1000000 in
theorem begin_any (l : List Bool) (hl : l.length ≤ 900000) (a : Option Addr) (cap : Nat) (w : World) (hs : SlB w a cap (pack l)) :
    Calls Tryz.prog 138 #[bv a (pack l).length cap l.length] w (WrNew w l) := by
  have HC := hid (fun W hW => cloneB_any (pack l) a cap W hW (pack_len_le (by omega)))
  go_enter Tryz.func138, Tryz.ntmps138
  go_wp2
  refine M2.wp_region_mix [2, 7] 9 (by kernel_rfl) (by kernel_rfl) (by decide) ?_
  simp only [M2.td]
  with_reducible refine M2.mixL_quiet 2 (by kernel_rfl) ?_
  simp only [M2.td]
  repeat (go_big_quiet_step (fail))
  with_reducible refine wpQuiet_nil ?_
  with_reducible refine M2.mixL_eff (by decide) ?_
  go_wp2_with ((go_at_call 165; (with_reducible refine (HC.out _ (by exact slA hs)).mono ?_); rintro _ _ ⟨⟨e1, rfl⟩, v1, rfl, o1⟩; obtain ⟨a1, c1, rfl, s1⟩ := Own.slice bcs_len o1))
  refine M2.MixQ.mk ovA ?_
  with_reducible refine M2.mixL_quiet 4 (by kernel_rfl) ?_
  simp only [M2.td]
  repeat (go_big_quiet_step (fail))
  with_reducible refine wpQuiet_nil ?_
  with_reducible refine M2.mixL_eff (by decide) ?_
  go_wp2_with (fail)
  refine M2.MixQ.mk ovA ?_
  with_reducible refine M2.mixL_quiet 1 (by kernel_rfl) ?_
  simp only [M2.td]
  repeat (go_big_quiet_step (fail))
  with_reducible refine wpQuiet_nil ?_
  with_reducible refine M2.mixL_nil ?_
  with_reducible refine M2.mixL_nil ?_
  go_wp2
  go_ret
  have o2 := Own.mono (base' := w.heap.size) o1 (by simp)
  refine ⟨_, _, rfl, ovA, _, Blk.new' (by simp), (by exact ownA o2), by omega, ?_, rfl⟩
  intro hm
  have := (Own.lt o1 hm).2
  simp at this

def HasWr (w1 : World) (p : Nat) (l : List Bool) (w : World) : Prop := ∃ e F, w = over w1 e ∧ WrAt w1.heap.size w p l F
def WrOv (w1 : World) (p : Nat) (l : List Bool) (en : Ending) (w' : World) : Prop := en = .returned (.tuple #[]) ∧ HasWr w1 p l w'
theorem WrDid.ov {w w1 w' : World} {p : Nat} {l' : List Bool} {F : List Nat} {en : Ending} (h : WrDid w1.heap.size w p F l' en w') (hw : ∃ e, w = over w1 e) (hF : ∀ i ∈ F, w1.heap.size ≤ i) : WrOv w1 p l' en w' := by
  obtain ⟨h1, m, F', h2, h3, _⟩ := h
  obtain ⟨e, he⟩ := ex_chg hw m hF
  exact ⟨h1, e, F', by rw [h2, he], h3⟩
theorem WrNew.ov {w w' : World} {l : List Bool} {en : Ending} (h : WrNew w l en w') : ∃ p, en = .returned (.pointer (some ⟨p, 0, none⟩)) ∧ HasWr w p l w' := by
  obtain ⟨p, F, h1, ⟨e, h2⟩, h3⟩ := h
  exact ⟨p, h1, e, F, h2, h3⟩
theorem number_ov {w1 w : World} {p : Nat} {l : List Bool} (h : HasWr w1 p l w) (hl : l.length ≤ 900000) (v W : Nat) (hv : v < 18446744073709551616) (hW : W ≤ 64) :
    Calls Tryz.prog 139 #[.pointer (some ⟨p, 0, none⟩), .int .u64 (v : Nat), .int .i64 (W : Nat)] w (WrOv w1 p (l ++ num v W)) := by
  obtain ⟨e, F, rfl, h⟩ := h
  exact (number_any h hl v W hv hW (by simp)).mono fun _ _ hd => hd.ov ⟨e, rfl⟩ (fun i hi => (h.lt i hi).1)
theorem lay_ov {w1 w : World} {p : Nat} {l : List Bool} (h : HasWr w1 p l w) (hl : l.length ≤ 1000000) (b n : Nat) (hb : b < 256) (hn : n ≤ 8) :
    Calls Tryz.prog 88 #[.pointer (some ⟨p, 0, none⟩), .int .u8 (b : Nat), .int .i64 (n : Nat)] w (WrOv w1 p (l ++ hi b n)) := by
  obtain ⟨e, F, rfl, h⟩ := h
  exact (lay_any h hl b n hb hn (by simp)).mono fun _ _ hd => hd.ov ⟨e, rfl⟩ (fun i hi => (h.lt i hi).1)
theorem HasWr.open_ {w1 w : World} {p : Nat} {l : List Bool} (h : HasWr w1 p l w) : ∃ e a c, w = over w1 e ∧ w1.heap.size ≤ p ∧ p < (over w1 e).heap.size ∧ (over w1 e).cell? ⟨p, 0, none⟩ = some (.slice a (pack l).length c) ∧ (over w1 e).cell? ⟨p, 1, none⟩ = some (.int .i64 (l.length : Nat)) ∧ OwnB w1.heap.size (over w1 e) (.slice a (pack l).length c) (pack l) := by
  obtain ⟨e, F, rfl, v, b3, o3, p3, q3, rfl⟩ := h
  obtain ⟨a3, c3, rfl, s3⟩ := Own.slice bcs_len o3
  exact ⟨e, a3, c3, rfl, p3, b3.lt, b3.cell 0 rfl, b3.cell 1 rfl, o3⟩

def PutPost (w : World) (l : List Bool) (en : Ending) (w' : World) : Prop :=
  ∃ a c, en = .returned (.tuple #[bv a (pack l).length c l.length, .int .u16 0]) ∧ (∃ e, w' = over w e) ∧ OwnB w.heap.size w' (.slice a (pack l).length c) (pack l)

set_option maxRecDepth 100000 in
set_option maxHeartbeats 2000000 in
theorem bput_any (l : List Bool) (hl : l.length ≤ 900000) (v W : Nat) (hv : v < 18446744073709551616) (hW : W ≤ 64) (a : Option Addr) (cap : Nat) (w : World) (hs : SlB w a cap (pack l)) :
    Calls Tryz.prog 116 #[bv a (pack l).length cap l.length, .int .u64 (v : Nat), .int .i64 (W : Nat)] w (PutPost w (l ++ num v W)) := by
  obtain ⟨L, hL⟩ : ∃ L, l ++ num v W = L := ⟨_, rfl⟩
  rw [hL]
  have HL := hid hL
  clear hL
  have HS := hid (fun W hW => sound_any (pack l) pack_lt (pack_len_le (by omega)) l.length (by omega) a cap W hW)
  rw [sound_pack] at HS
  have HB := hid (fun W hW => begin_any l hl a cap W hW)
  go_enter Tryz.func116, Tryz.ntmps116
  go_wp2_with (first | (go_at_call 87; (with_reducible refine (HS.out _ (by exact slA hs)).mono ?_); rintro _ _ ⟨⟨e1, rfl⟩, rfl⟩) | (go_at_call 138; (with_reducible refine (HB.out _ (by exact slA hs)).mono ?_); rintro _ _ hw2; obtain ⟨p, rfl, hw3⟩ := hw2.ov; have HW := hid hw3; clear hw2 hw3) | (go_at_call 139; (with_reducible refine (number_ov HW.out hl v W hv hW).mono ?_); rintro _ _ ⟨rfl, hw4⟩; rw [HL.out] at hw4; obtain ⟨e4, a4, c4, rfl, p4, q4, k0, k1, o4⟩ := hw4.open_; have O4 := hid o4; clear hw4 o4))
  (try simp only [Exit.inBlock, Exit.then])
  refine bodyPost_ret (v := ?rv2) ?rh2 rfl ?rp2
  case rh2 => (simp only [results, show Tryz.f116.results = #[.cell 6 46, .tmp 7] from rfl]; go_simp; rfl)
  exact ⟨a4, c4, rfl, ovA, Own.mono (Own.over_swap O4.out (by simp) (Nat.le_refl _)) (by simp; omega)⟩
end
section
open Go.RowKit

def bstr (xs : List Nat) : ByteArray := ⟨(xs.map UInt8.ofNat).toArray⟩
end
section
open Go.RowKit

abbrev getV (p : Nat × Nat) : Value := .tuple #[.int .u64 (p.1 : Nat), .int .u16 (p.2 : Nat)]
end
end Go.Proofs.YtnihngljmmbenaaGreatDoor
