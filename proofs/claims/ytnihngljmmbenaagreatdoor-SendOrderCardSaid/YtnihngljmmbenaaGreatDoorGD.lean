import Derived.Test.YtnihngljmmbenaaGreatDoorGA
import Derived.Test.YtnihngljmmbenaaGreatDoorGB
namespace Go.Proofs.YtnihngljmmbenaaGreatDoor
set_option linter.unusedVariables false
set_option linter.unusedSimpArgs false
section

def i64ok (v : Int) : Prop := -9223372036854775808 ≤ v ∧ v ≤ 9223372036854775807
def foldZ (v : Int) : Nat := if 0 ≤ v then (2 * v).toNat else (2 * (-(v + 1)) + 1).toNat
def unfoldZ (n : Nat) : Int := if n % 2 = 0 then ((n / 2 : Nat) : Int) else -((n / 2 : Nat) : Int) - 1
theorem foldZ_lt {v : Int} (h : i64ok v) : foldZ v < 18446744073709551616 := by unfold i64ok at h; unfold foldZ; split <;> omega
theorem unfold_fold (v : Int) : unfoldZ (foldZ v) = v := by
  unfold unfoldZ foldZ
  by_cases h : 0 ≤ v
  · rw [if_pos h, if_pos (by omega)]; omega
  · rw [if_neg h, if_neg (by omega)]; omega
theorem fold_unfold (n : Nat) : foldZ (unfoldZ n) = n := by
  unfold unfoldZ foldZ
  by_cases h : n % 2 = 0
  · rw [if_pos h, if_pos (by omega)]; omega
  · rw [if_neg h, if_neg (by omega)]; omega
theorem unfoldZ_ok {n : Nat} (h : n < 18446744073709551616) : i64ok (unfoldZ n) := by unfold i64ok unfoldZ; split <;> omega

def zw : Nat → Nat
  | 0 => 0
  | 1 => 7
  | 2 => 9
  | 3 => 12
  | 4 => 32
  | _ => 64
theorem zw_le (k : Nat) : zw k ≤ 64 := by unfold zw; split <;> omega
def zrow (n : Nat) : Nat := if n < 1 then 0 else if n < 128 then 1 else if n < 512 then 2 else if n < 4096 then 3 else if n < 4294967296 then 4 else 5
theorem zrow_le (n : Nat) : zrow n ≤ 5 := by
  unfold zrow
  repeat' split
  all_goals omega
theorem zrow_lt {n : Nat} (h : n < 18446744073709551616) : n < 2 ^ zw (zrow n) := by
  unfold zrow
  split
  · simp [zw]; omega
  split
  · simp [zw]; omega
  split
  · simp [zw]; omega
  split
  · simp [zw]; omega
  split
  · simp [zw]; omega
  · simp [zw]; omega

def zhead (k : Nat) : List Bool := List.replicate k true ++ (if k < 5 then [false] else [])
theorem zhead_len {k : Nat} (h : k ≤ 5) : (zhead k).length = min (k + 1) 5 := by unfold zhead; split <;> simp <;> omega
def zbits (n : Nat) : List Bool := zhead (zrow n) ++ num n (zw (zrow n))
theorem zbits_len (n : Nat) : 1 ≤ (zbits n).length ∧ (zbits n).length ≤ 69 := by
  unfold zbits
  rw [List.length_append, num_length, zhead_len (zrow_le n)]
  have := zw_le (zrow n)
  omega

def ones : List Bool → Nat → Nat
  | true :: l, m + 1 => ones l m + 1
  | _, _ => 0
theorem ones_le : ∀ (l : List Bool) (m : Nat), ones l m ≤ m ∧ ones l m ≤ l.length
  | [], m => by simp [ones]
  | false :: l, m => by simp [ones]
  | true :: l, 0 => by simp [ones]
  | true :: l, m + 1 => by have := ones_le l m; simp only [ones, List.length_cons]; omega
theorem ones_take : ∀ (l : List Bool) (m : Nat), l.take (ones l m) = List.replicate (ones l m) true
  | [], m => by simp [ones]
  | false :: l, m => by simp [ones]
  | true :: l, 0 => by simp [ones]
  | true :: l, m + 1 => by simp only [ones, List.take_succ_cons, List.replicate_succ]; rw [ones_take l m]
theorem ones_stop : ∀ (l : List Bool) (m : Nat), ones l m < m → ones l m < l.length → l.getD (ones l m) false = false
  | [], m, _, h => by simp [ones] at h
  | false :: l, m, _, _ => by simp [ones]
  | true :: l, 0, h, _ => by simp [ones] at h
  | true :: l, m + 1, h, h2 => by
    simp only [ones, List.length_cons] at *
    have := ones_stop l m (by omega) (by omega)
    simpa using this
theorem ones_head : ∀ (k m : Nat) (r : List Bool), k ≤ m → (k < m → ∃ r', r = false :: r') → ones (List.replicate k true ++ r) m = k
  | 0, m, r, h, hr => by
    by_cases h0 : 0 < m
    · obtain ⟨r', rfl⟩ := hr h0; simp [ones]
    · have : m = 0 := by omega
      subst this
      cases r with
      | nil => simp [ones]
      | cons b r => cases b <;> simp [ones]
  | k + 1, 0, r, h, _ => by omega
  | k + 1, m + 1, r, h, hr => by
    simp only [List.replicate_succ, List.cons_append, ones]
    rw [ones_head k m r (by omega) (fun h => hr (by omega))]

def getZ (l : List Bool) (at_ : Int) : Int × Int × Nat :=
  if at_ < 0 ∨ l.length < at_ then (0, 0, 10)
  else if ones (l.drop at_.toNat) 5 < 5 ∧ l.length ≤ at_.toNat + ones (l.drop at_.toNat) 5 then (0, 0, 10)
  else if (getN l (at_ + (zhead (ones (l.drop at_.toNat) 5)).length) (zw (ones (l.drop at_.toNat) 5))).2 ≠ 0 then (0, 0, 10)
  else if zrow (getN l (at_ + (zhead (ones (l.drop at_.toNat) 5)).length) (zw (ones (l.drop at_.toNat) 5))).1 ≠ ones (l.drop at_.toNat) 5 then (0, 0, 11)
  else (unfoldZ (getN l (at_ + (zhead (ones (l.drop at_.toNat) 5)).length) (zw (ones (l.drop at_.toNat) 5))).1, at_ + (zhead (ones (l.drop at_.toNat) 5)).length + zw (ones (l.drop at_.toNat) 5), 0)

theorem getZ_written (a r : List Bool) {n : Nat} (h : n < 18446744073709551616) : getZ (a ++ (zbits n ++ r)) a.length = (unfoldZ n, ((a.length + (zbits n).length : Nat) : Int), 0) := by
  have hk := zrow_le n
  have h1 : ones ((a ++ (zbits n ++ r)).drop (a.length : Int).toNat) 5 = zrow n := by
    rw [Int.toNat_natCast, List.drop_left' rfl]
    unfold zbits zhead
    simp only [List.append_assoc]
    apply ones_head _ _ _ hk
    intro hlt
    rw [if_pos hlt]
    exact ⟨_, rfl⟩
  have h2 : getN (a ++ (zbits n ++ r)) ((a.length : Int) + (zhead (zrow n)).length) (zw (zrow n)) = (n, 0) := by
    have := getN_num (a ++ zhead (zrow n)) r (zrow_lt h)
    simpa [zbits, List.append_assoc] using this
  unfold getZ
  rw [h1, h2]
  have hl := zhead_len hk
  rw [if_neg (by simp; omega), if_neg (by
    simp only [List.length_append, zbits, hl]; omega), if_neg (by simp), if_neg (by simp)]
  simp only [Prod.mk.injEq, and_true, true_and]
  simp [zbits, num_length]; omega

theorem zrow_fits {n k : Nat} (hk : k ≤ 5) (hn : n < 2 ^ zw k) : zrow n ≤ k := by
  unfold zrow
  match k, hk with
  | 0, _ => simp [zw] at hn; simp [hn]
  | 1, _ => simp [zw] at hn; split <;> (try omega)
  | 2, _ => simp [zw] at hn; split <;> (try omega); split <;> (try omega)
  | 3, _ => simp [zw] at hn; split <;> (try omega); split <;> (try omega); split <;> (try omega)
  | 4, _ => simp [zw] at hn; split <;> (try omega); split <;> (try omega); split <;> (try omega); split <;> (try omega)
  | 5, _ => repeat' split
            all_goals omega

theorem getZ_ok {l : List Bool} {at_ n : Int} {v : Int} (h : getZ l at_ = (v, n, 0)) : 0 ≤ at_ ∧ at_ < n ∧ n ≤ l.length ∧ i64ok v ∧ zbits (foldZ v) = (l.drop at_.toNat).take (n.toNat - at_.toNat) := by
  unfold getZ at h
  split at h
  · simp at h
  rename_i h1
  obtain ⟨i, rfl⟩ : ∃ i : Nat, at_ = i := ⟨at_.toNat, by omega⟩
  simp only [Int.toNat_natCast] at h ⊢
  split at h
  · simp at h
  rename_i h2
  split at h
  · simp at h
  rename_i h3
  split at h
  · simp at h
  rename_i h4
  have hle := ones_le (l.drop i) 5
  have htk := ones_take (l.drop i) 5
  have hst := ones_stop (l.drop i) 5
  generalize ones (l.drop i) 5 = k at *
  have hl := zhead_len hle.1
  obtain ⟨j, hj, hj2, hb⟩ := getN_in (w := zw k) (at_ := (i : Int) + (zhead k).length) (l := l) (by simpa using h3)
  obtain rfl : j = i + (zhead k).length := by omega
  rw [← hj] at hb
  have hlt := getN_lt l ((i : Int) + (zhead k).length) (zw k)
  generalize (getN l ((i : Int) + (zhead k).length) (zw k)).1 = m at *
  simp only [Prod.mk.injEq, and_true] at h
  obtain ⟨rfl, rfl⟩ := h
  have hm : m < 18446744073709551616 := Nat.lt_of_lt_of_le hlt (by rw [show 18446744073709551616 = 2 ^ 64 from rfl]; exact Nat.pow_le_pow_right (by omega) (zw_le k))
  have hrow : zrow m = k := by simpa using h4
  refine ⟨by omega, by omega, by omega, unfoldZ_ok hm, ?_⟩
  rw [fold_unfold, show ((i : Int) + (zhead k).length + zw k).toNat - i = (zhead k).length + zw k by omega]
  unfold zbits
  rw [hrow, take_two, hb]
  congr 1
  apply getD_ext (by rw [List.length_take, List.length_drop, hl]; omega)
  intro q hq
  rw [hl] at hq
  have e1 : ((l.drop i).take (zhead k).length).getD q false = (l.drop i).getD q false := by
    simp only [List.getD_eq_getElem?_getD]; rw [List.getElem?_take, if_pos (by omega)]
  rw [e1]
  unfold zhead
  rw [app_getD]
  split
  · rename_i hqk
    have e2 : (l.drop i).getD q false = ((l.drop i).take k).getD q false := by
      simp only [List.getD_eq_getElem?_getD]; rw [List.getElem?_take, if_pos (by simpa using hqk)]
    rw [e2, htk]
  · rename_i hqk
    simp at hqk
    have hqk' : q = k := by omega
    subst hqk'
    rw [hst (by omega) (by rw [List.length_drop]; omega), if_pos (by omega)]
    simp
end
section
open Go.RowKit
attribute [local go_sem] over_drew

theorem xor_all {x : Nat} (h : x < 18446744073709551616) : x ^^^ 18446744073709551615 = 18446744073709551615 - x := by
  have e : 18446744073709551615 - x = 2 ^ 64 - (x + 1) := by omega
  rw [e]
  apply Nat.eq_of_testBit_eq
  intro i
  rw [Nat.testBit_xor, Nat.testBit_two_pow_sub_succ h, show (18446744073709551615 : Nat) = 2 ^ 64 - 1 from rfl, Nat.testBit_two_pow_sub_one]
  by_cases hi : i < 64
  · simp [hi]
  · have : x.testBit i = false := Nat.testBit_lt_two_pow (Nat.lt_of_lt_of_le h (by rw [show 18446744073709551616 = 2 ^ 64 from rfl]; exact Nat.pow_le_pow_right (by omega) (by omega)))
    simp [hi, this]

set_option maxHeartbeats 1000000 in
theorem zfold_any (v : Int) (hv : i64ok v) (w : World) : Calls Tryz.prog 140 #[.int .i64 v] w (Ret w (.int .u64 (foldZ v : Nat))) := by
  obtain ⟨h1, h2⟩ := hv
  by_cases h0 : 0 ≤ v
  · obtain ⟨n, rfl⟩ : ∃ n : Nat, v = n := ⟨v.toNat, by omega⟩
    have hf : foldZ n = 2 * n := by unfold foldZ; rw [if_pos h0]; omega
    have hd : (n : Int) / 9223372036854775808 = 0 := by omega
    have hx := xor64 (2 * n) 0 (by omega) (by decide)
    simp only [Nat.xor_zero] at hx
    have HX := hid hx
    have HF := hid hf
    clear hx hf
    go_enter Tryz.func140, Tryz.ntmps140
    go_wp2
    go_ret
    refine ⟨ovA, ret_int ?_⟩
    rw [HF.out, ← HX.out]
    congr 1
    omega
  · have hf : foldZ v = (2 * (-(v + 1)) + 1).toNat := by unfold foldZ; rw [if_neg h0]
    have hd : v / 9223372036854775808 = -1 := by omega
    obtain ⟨m, hm⟩ : ∃ m : Nat, IntKind.u64.wrap (IntKind.u64.wrap v * 2) = m ∧ (m : Int) = 18446744073709551616 + 2 * v := by
      refine ⟨(18446744073709551616 + 2 * v).toNat, ?_, by omega⟩
      simp only [IntKind.wrap_u64]
      omega
    have hx := xor64 m 18446744073709551615 (by omega) (by decide)
    rw [xor_all (by omega)] at hx
    have HX := hid hx
    have HF := hid hf
    have HM := hid hm
    clear hx hf hm
    have h0' : v < 0 := by omega
    go_enter Tryz.func140, Tryz.ntmps140
    go_wp2
    go_ret
    refine ⟨ovA, ret_int ?_⟩
    have e1 : IntKind.u64.wrap (-1) = ((18446744073709551615 : Nat) : Int) := by simp only [IntKind.wrap_u64]; decide
    rw [HF.out, HM.out.1, e1, HX.out]
    have := HM.out.2
    omega

/-! ### Rows -/
def zahead : Nat → Nat
  | 0 => 0
  | 1 => 2
  | 2 => 6
  | 3 => 14
  | 4 => 30
  | _ => 31
def zmany : Nat → Nat
  | 0 => 1
  | 1 => 2
  | 2 => 3
  | 3 => 4
  | _ => 5
theorem zhead_num {k : Nat} (hk : k ≤ 5) : num (zahead k) (zmany k) = zhead k := by
  match k, hk with
  | 0, _ => rfl
  | 1, _ => rfl
  | 2, _ => rfl
  | 3, _ => rfl
  | 4, _ => rfl
  | 5, _ => rfl
end
section
open Go.RowKit
attribute [local go_sem] over_drew

theorem zrow_iff {n k : Nat} (hn : n < 18446744073709551616) (hk : k ≤ 5) : zrow n ≤ k ↔ n < 2 ^ zw k := by
  constructor
  · intro h
    refine Nat.lt_of_lt_of_le (zrow_lt hn) (Nat.pow_le_pow_right (by omega) ?_)
    have h5 := zrow_le n
    generalize zrow n = j at *
    match j, k, h5, hk, h with
    | 0, k, _, _, _ => simp [zw]
    | 1, 1, _, _, _ => decide
    | 1, 2, _, _, _ => decide
    | 1, 3, _, _, _ => decide
    | 1, 4, _, _, _ => decide
    | 1, 5, _, _, _ => decide
    | 2, 2, _, _, _ => decide
    | 2, 3, _, _, _ => decide
    | 2, 4, _, _, _ => decide
    | 2, 5, _, _, _ => decide
    | 3, 3, _, _, _ => decide
    | 3, 4, _, _, _ => decide
    | 3, 5, _, _, _ => decide
    | 4, 4, _, _, _ => decide
    | 4, 5, _, _, _ => decide
    | 5, 5, _, _, _ => decide
  · exact zrow_fits hk
end
end Go.Proofs.YtnihngljmmbenaaGreatDoor
