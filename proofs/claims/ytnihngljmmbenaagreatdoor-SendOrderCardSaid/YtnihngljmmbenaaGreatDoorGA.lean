import Derived.Test.YtnihngljmmbenaaGreatDoorNI
import Derived.Lib.TrailingZeros
import Derived.Lib.BitFns
import Derived.Test.YtnihngljmmbenaaGreatDoorMix2
namespace Go.Proofs.YtnihngljmmbenaaGreatDoor
set_option linter.unusedVariables false
set_option linter.unusedSimpArgs false
section

def oct (f : Nat → Bool) : Nat := (f 0).toNat * 128 + (f 1).toNat * 64 + (f 2).toNat * 32 + (f 3).toNat * 16 + (f 4).toNat * 8 + (f 5).toNat * 4 + (f 6).toNat * 2 + (f 7).toNat

theorem toNat_le1 (b : Bool) : b.toNat ≤ 1 := by cases b <;> decide
theorem oct_lt (f : Nat → Bool) : oct f < 256 := by
  unfold oct
  have := toNat_le1 (f 0); have := toNat_le1 (f 1); have := toNat_le1 (f 2); have := toNat_le1 (f 3)
  have := toNat_le1 (f 4); have := toNat_le1 (f 5); have := toNat_le1 (f 6); have := toNat_le1 (f 7)
  omega

theorem testBit_big {x k : Nat} (hx : x < 256) (hk : 8 ≤ k) : x.testBit k = false :=
  Nat.testBit_lt_two_pow (Nat.lt_of_lt_of_le hx (by rw [show 256 = 2 ^ 8 by rfl]; exact Nat.pow_le_pow_right (by omega) hk))

theorem oct_table : ∀ b0 b1 b2 b3 b4 b5 b6 b7 : Bool, ∀ k : Fin 8, (b0.toNat * 128 + b1.toNat * 64 + b2.toNat * 32 + b3.toNat * 16 + b4.toNat * 8 + b5.toNat * 4 + b6.toNat * 2 + b7.toNat).testBit k.val = [b7, b6, b5, b4, b3, b2, b1, b0].getD k.val false := by
  decide +kernel

theorem oct_testBit (f : Nat → Bool) (k : Nat) : (oct f).testBit k = (decide (k < 8) && f (7 - k)) := by
  by_cases h : k < 8
  · rw [decide_eq_true h, Bool.true_and]
    have := oct_table (f 0) (f 1) (f 2) (f 3) (f 4) (f 5) (f 6) (f 7) ⟨k, h⟩
    unfold oct
    rw [this]
    match k, h with
    | 0, _ => rfl
    | 1, _ => rfl
    | 2, _ => rfl
    | 3, _ => rfl
    | 4, _ => rfl
    | 5, _ => rfl
    | 6, _ => rfl
    | 7, _ => rfl
  · rw [decide_eq_false h, Bool.false_and]
    exact testBit_big (oct_lt f) (by omega)

theorem byte_ext {x y : Nat} (hx : x < 256) (hy : y < 256) (h : ∀ k < 8, x.testBit k = y.testBit k) : x = y := by
  apply Nat.eq_of_testBit_eq
  intro k
  by_cases hk : k < 8
  · exact h k hk
  · rw [testBit_big hx (by omega), testBit_big hy (by omega)]

/-! ### The bytes of bits -/

def nb (n : Nat) : Nat := (n + 7) / 8
def pack (l : List Bool) : List Nat := (List.range (nb l.length)).map fun q => oct fun j => l.getD (8 * q + j) false

theorem pack_length (l : List Bool) : (pack l).length = nb l.length := by simp [pack]
theorem pack_get {l : List Bool} {q : Nat} (h : q < (pack l).length) : (pack l)[q] = oct fun j => l.getD (8 * q + j) false := by simp [pack]
theorem pack_lt {l : List Bool} : ∀ b ∈ pack l, b < 256 := by
  intro b hb
  simp only [pack, List.mem_map] at hb
  obtain ⟨q, _, rfl⟩ := hb
  exact oct_lt _
theorem pack_nil : pack [] = [] := rfl

theorem getD_ge {l : List Bool} {i : Nat} (h : l.length ≤ i) : l.getD i false = false := by
  rw [List.getD_eq_getElem?_getD, List.getElem?_eq_none h]; rfl
theorem getD_app_left {l r : List Bool} {i : Nat} (h : i < l.length) : (l ++ r).getD i false = l.getD i false := by
  simp only [List.getD_eq_getElem?_getD]; rw [List.getElem?_append_left h]
theorem getD_app_right {l r : List Bool} {i : Nat} (h : l.length ≤ i) : (l ++ r).getD i false = r.getD (i - l.length) false := by
  simp only [List.getD_eq_getElem?_getD]; rw [List.getElem?_append_right h]
theorem getD_ext {a b : List Bool} (hl : a.length = b.length) (h : ∀ i < a.length, a.getD i false = b.getD i false) : a = b := by
  apply List.ext_getElem hl
  intro i h1 h2
  have := h i h1
  simpa [List.getD_eq_getElem?_getD, List.getElem?_eq_getElem, h1, h2] using this

/-! ### Soundness -/

def soundB (bs : List Nat) (N : Int) : Bool :=
  decide (0 ≤ N) && decide ((bs.length : Int) = (N + 7) / 8) && (decide (N % 8 = 0) || decide (bs.getLastD 0 % 2 ^ (8 - (N % 8).toNat) = 0))

theorem sound_pack (l : List Bool) : soundB (pack l) l.length = true := by
  simp only [soundB, Bool.and_eq_true, Bool.or_eq_true, decide_eq_true_eq]
  refine ⟨⟨by omega, by rw [pack_length]; unfold nb; omega⟩, ?_⟩
  by_cases hz : (l.length : Int) % 8 = 0
  · exact .inl hz
  right
  have hq : nb l.length - 1 < (pack l).length := by rw [pack_length]; unfold nb; omega
  have hl : (pack l).getLastD 0 = (pack l)[nb l.length - 1] := by
    rw [List.getLastD_eq_getLast?, List.getLast?_eq_getElem?, pack_length, List.getElem?_eq_getElem hq]; rfl
  rw [hl, pack_get]
  apply Nat.eq_of_testBit_eq
  intro k
  rw [Nat.testBit_mod_two_pow, oct_testBit, Nat.zero_testBit]
  by_cases hk : k < 8 - ((l.length : Int) % 8).toNat
  · rw [getD_ge (by unfold nb; omega)]; simp
  · rw [decide_eq_false hk]; rfl

/-! ### Numbers -/

def num (v w : Nat) : List Bool := (List.range w).map fun j => v.testBit (w - 1 - j)
def val (l : List Bool) : Nat := l.foldl (fun a b => 2 * a + b.toNat) 0

theorem num_length (v w : Nat) : (num v w).length = w := by simp [num]
theorem num_getD {v w i : Nat} (h : i < w) : (num v w).getD i false = v.testBit (w - 1 - i) := by
  simp [num, List.getD_eq_getElem?_getD, List.getElem?_map, List.getElem?_range h]
theorem num_zero (v : Nat) : num v 0 = [] := rfl

theorem num_split (v a b : Nat) : num v (a + b) = num (v >>> b) a ++ num v b := by
  refine getD_ext (by simp [num_length]) fun i hi => ?_
  rw [num_length] at hi
  rw [num_getD hi]
  by_cases h : i < a
  · rw [getD_app_left (by rw [num_length]; exact h), num_getD h, Nat.testBit_shiftRight]; congr 1; omega
  · rw [getD_app_right (by rw [num_length]; omega), num_length, num_getD (by omega)]; congr 1; omega

theorem val_foldl (l : List Bool) (a : Nat) : l.foldl (fun a b => 2 * a + b.toNat) a = a * 2 ^ l.length + val l := by
  induction l generalizing a with
  | nil => simp [val]
  | cons b l ih =>
    rw [val, List.foldl_cons, List.foldl_cons, ih, ih (2 * 0 + b.toNat), List.length_cons, Nat.pow_succ, Nat.add_mul]
    have : 2 * a * 2 ^ l.length = a * (2 ^ l.length * 2) := by rw [Nat.mul_comm 2 a, Nat.mul_assoc, Nat.mul_comm 2]
    simp only [Nat.mul_zero, Nat.zero_add] at *
    omega
theorem val_append (a b : List Bool) : val (a ++ b) = val a * 2 ^ b.length + val b := by
  rw [val, List.foldl_append, val_foldl]; rfl
theorem val_cons (b : Bool) (l : List Bool) : val (b :: l) = b.toNat * 2 ^ l.length + val l := by
  have := val_append [b] l
  simpa [val] using this
theorem val_one (b : Bool) : val [b] = b.toNat := by simp [val]
theorem val_lt (l : List Bool) : val l < 2 ^ l.length := by
  induction l with
  | nil => simp [val]
  | cons b l ih =>
    rw [val_cons, List.length_cons, Nat.pow_succ]
    have := toNat_le1 b
    have : b.toNat * 2 ^ l.length ≤ 2 ^ l.length := by
      have := Nat.mul_le_mul_right (2 ^ l.length) this
      omega
    omega

theorem val_num (v w : Nat) : val (num v w) = v % 2 ^ w := by
  induction w with
  | zero => simp [num, val, Nat.mod_one]
  | succ w ih =>
    have h1 : num v (1 + w) = num (v >>> w) 1 ++ num v w := num_split v 1 w
    rw [Nat.add_comm w 1, h1, val_append, ih, num_length]
    have h2 : num (v >>> w) 1 = [v.testBit w] := by simp [num, Nat.testBit_shiftRight]
    have h3 : (v.testBit w).toNat = v / 2 ^ w % 2 := by rw [Nat.testBit_eq_decide_div_mod_eq]; rcases Nat.mod_two_eq_zero_or_one (v / 2 ^ w) with h | h <;> rw [h] <;> rfl
    rw [h2, val_one, h3, Nat.add_comm 1 w, Nat.pow_succ, Nat.mod_mul, Nat.mul_comm (2 ^ w), Nat.add_comm]

theorem num_val (l : List Bool) : num (val l) l.length = l := by
  induction l with
  | nil => rfl
  | cons b l ih =>
    have h1 : num (val (b :: l)) (1 + l.length) = num (val (b :: l) >>> l.length) 1 ++ num (val (b :: l)) l.length := num_split _ 1 _
    rw [List.length_cons, Nat.add_comm l.length 1, h1, val_cons]
    have hv := val_lt l
    have e1 : (b.toNat * 2 ^ l.length + val l) >>> l.length = b.toNat := by
      rw [Nat.shiftRight_eq_div_pow, Nat.mul_comm, Nat.mul_add_div (Nat.two_pow_pos _), Nat.div_eq_of_lt hv, Nat.add_zero]
    have e2 : num (b.toNat * 2 ^ l.length + val l) l.length = num (val l) l.length := by
      unfold num
      apply List.map_congr_left
      intro j hj
      have hj := List.mem_range.1 hj
      rw [Nat.mul_comm, Nat.testBit_two_pow_mul_add _ hv, if_pos (by omega)]
    rw [e1, e2, ih]
    cases b <;> rfl
end
section

theorem bits_ext {bs : List Nat} {L : List Bool} (hl : bs.length = nb L.length) (hb : ∀ b ∈ bs, b < 256) (h : ∀ i (hi : i / 8 < bs.length), bs[i / 8].testBit (7 - i % 8) = L.getD i false) : bs = pack L := by
  apply List.ext_getElem
  · rw [pack_length, hl]
  intro q h1 h2
  rw [pack_get]
  apply byte_ext (hb _ (List.getElem_mem h1)) (oct_lt _)
  intro k hk
  rw [oct_testBit, decide_eq_true hk, Bool.true_and]
  have := h (8 * q + (7 - k)) (by omega)
  simp only [show (8 * q + (7 - k)) / 8 = q by omega, show 7 - (8 * q + (7 - k)) % 8 = k by omega] at this
  exact this

theorem pack_bit' {l : List Bool} {i : Nat} (h : i / 8 < (pack l).length) : (pack l)[i / 8].testBit (7 - i % 8) = l.getD i false := by
  rw [pack_get, oct_testBit, decide_eq_true (by omega), Bool.true_and, show 8 * (i / 8) + (7 - (7 - i % 8)) = i by omega]

def hi (b n : Nat) : List Bool := (List.range n).map fun j => b.testBit (7 - j)
theorem hi_length (b n : Nat) : (hi b n).length = n := by simp [hi]
theorem hi_getD (b n i : Nat) : (hi b n).getD i false = (decide (i < n) && b.testBit (7 - i)) := by
  by_cases h : i < n
  · rw [decide_eq_true h, Bool.true_and, List.getD_eq_getElem?_getD]
    simp [hi, h]
  · rw [decide_eq_false h, Bool.false_and, getD_ge (by rw [hi_length]; omega)]
theorem hi_zero (b : Nat) : hi b 0 = [] := rfl

def mask (b n : Nat) : Nat := b &&& (255 <<< (8 - n) % 256)
theorem mask_lt (b n : Nat) : mask b n < 256 := Nat.lt_of_le_of_lt Nat.and_le_right (Nat.mod_lt _ (by decide))
theorem mask_bit (b n k : Nat) (hn : n ≤ 8) : (mask b n).testBit k = (decide (k < 8) && decide (8 - n ≤ k) && b.testBit k) := by
  unfold mask
  rw [Nat.testBit_and, show 256 = 2 ^ 8 from rfl, Nat.testBit_mod_two_pow, Nat.testBit_shiftLeft, show 255 = 2 ^ 8 - 1 from rfl, Nat.testBit_two_pow_sub_one]
  by_cases h1 : k < 8 <;> by_cases h2 : 8 - n ≤ k <;> simp [h1, h2]
  intro _; omega
theorem app_getD (l r : List Bool) (i : Nat) : (l ++ r).getD i false = if i < l.length then l.getD i false else r.getD (i - l.length) false := by
  split
  · rw [getD_app_left (by assumption)]
  · rw [getD_app_right (by omega)]

theorem lay_p0 {l : List Bool} {b n : Nat} (hk : l.length % 8 = 0) (h0 : 0 < n) (hn : n ≤ 8) : pack l ++ [mask b n] = pack (l ++ hi b n) := by
  have hpl : (pack l).length = l.length / 8 := by rw [pack_length]; unfold nb; omega
  apply bits_ext
  · rw [List.length_append, hpl, List.length_append, hi_length]; simp; unfold nb; omega
  · intro x hx
    rcases List.mem_append.1 hx with h | h
    · exact pack_lt x h
    · simp at h; subst h; exact mask_lt _ _
  · intro i hi'
    rw [List.length_append, hpl] at hi'
    simp at hi'
    rw [app_getD]
    by_cases h : i < l.length
    · rw [if_pos h, ← pack_bit' (by rw [hpl]; omega), List.getElem_append_left (by rw [hpl]; omega)]
    · rw [if_neg h, hi_getD, List.getElem_append_right (by rw [hpl]; omega)]
      simp only [List.getElem_singleton]
      rw [mask_bit _ _ _ hn, decide_eq_true (show 7 - i % 8 < 8 by omega), Bool.true_and, show 7 - (i - l.length) = 7 - i % 8 by omega]
      congr 1
      rw [decide_eq_decide]; omega

theorem or_lt {a b : Nat} (ha : a < 256) (hb : b < 256) : a ||| b < 256 := Nat.or_lt_two_pow (n := 8) ha hb
theorem shr_lt' {a k n : Nat} (h : a < n) : a >>> k < n := Nat.lt_of_le_of_lt (by rw [Nat.shiftRight_eq_div_pow]; exact Nat.div_le_self _ _) h

theorem lay_len {l : List Bool} (hk : l.length % 8 ≠ 0) : (pack l).length = l.length / 8 + 1 := by rw [pack_length]; unfold nb; omega
theorem lay_last {l : List Bool} (hk : l.length % 8 ≠ 0) : (pack l).length - 1 < (pack l).length := by rw [lay_len hk]; omega

theorem lay_lastbit {l : List Bool} {b n : Nat} (hk : l.length % 8 ≠ 0) (hn : n ≤ 8) (i : Nat) (hi' : i / 8 = l.length / 8) :
    ((pack l)[(pack l).length - 1]'(lay_last hk) ||| mask b n >>> (l.length % 8)).testBit (7 - i % 8) = (l ++ hi b n).getD i false := by
  have hpl := lay_len hk
  have e : (pack l)[(pack l).length - 1]'(lay_last hk) = (pack l)[i / 8]'(by omega) := by congr 1; omega
  rw [Nat.testBit_or, e, pack_bit' (by omega), Nat.testBit_shiftRight, mask_bit _ _ _ hn, app_getD]
  by_cases h : i < l.length
  · rw [if_pos h, decide_eq_false (show ¬ l.length % 8 + (7 - i % 8) < 8 by omega)]; simp
  · rw [if_neg h, getD_ge (by omega), Bool.false_or, decide_eq_true (show l.length % 8 + (7 - i % 8) < 8 by omega), Bool.true_and, hi_getD, show 7 - (i - l.length) = l.length % 8 + (7 - i % 8) by omega]
    congr 1
    rw [decide_eq_decide]; omega

theorem lay_p1 {l : List Bool} {b n : Nat} (hk : l.length % 8 ≠ 0) (hn : n ≤ 8) (h8 : n ≤ 8 - l.length % 8) :
    (pack l).set ((pack l).length - 1) ((pack l)[(pack l).length - 1]'(lay_last hk) ||| mask b n >>> (l.length % 8)) = pack (l ++ hi b n) := by
  have hpl := lay_len hk
  apply bits_ext
  · rw [List.length_set, hpl, List.length_append, hi_length]; unfold nb; omega
  · intro x hx
    rcases List.mem_or_eq_of_mem_set hx with h | h
    · exact pack_lt x h
    · subst h; exact or_lt (pack_lt _ (List.getElem_mem _)) (shr_lt' (mask_lt _ _))
  · intro i hi'
    rw [List.length_set] at hi'
    rw [List.getElem_set]
    split
    · exact lay_lastbit hk hn i (by omega)
    · rw [pack_bit' hi', app_getD, if_pos (by omega)]

theorem lay_p2 {l : List Bool} {b n : Nat} (hk : l.length % 8 ≠ 0) (hn : n ≤ 8) (h8 : 8 - l.length % 8 < n) :
    (pack l).set ((pack l).length - 1) ((pack l)[(pack l).length - 1]'(lay_last hk) ||| mask b n >>> (l.length % 8)) ++ [mask b n <<< (8 - l.length % 8) % 256] = pack (l ++ hi b n) := by
  have hpl := lay_len hk
  apply bits_ext
  · simp only [List.length_append, List.length_set, hpl, hi_length]; simp; unfold nb; omega
  · intro x hx
    rcases List.mem_append.1 hx with hx | hx
    · rcases List.mem_or_eq_of_mem_set hx with h | h
      · exact pack_lt x h
      · subst h; exact or_lt (pack_lt _ (List.getElem_mem _)) (shr_lt' (mask_lt _ _))
    · simp at hx; subst hx; omega
  · intro i hi'
    simp only [List.length_append, List.length_set, hpl] at hi'
    simp at hi'
    by_cases hq : i / 8 < (pack l).length
    · rw [List.getElem_append_left (by rw [List.length_set]; exact hq), List.getElem_set]
      split
      · exact lay_lastbit hk hn i (by omega)
      · rw [pack_bit' hq, app_getD, if_pos (by omega)]
    · rw [List.getElem_append_right (by rw [List.length_set]; omega)]
      simp only [List.getElem_singleton]
      rw [app_getD, if_neg (by omega), hi_getD, show 256 = 2 ^ 8 from rfl, Nat.testBit_mod_two_pow, decide_eq_true (show 7 - i % 8 < 8 by omega), Bool.true_and, Nat.testBit_shiftLeft, mask_bit _ _ _ hn]
      by_cases hc : 7 - i % 8 ≥ 8 - l.length % 8
      · rw [decide_eq_true hc, Bool.true_and, decide_eq_true (show 7 - i % 8 - (8 - l.length % 8) < 8 by omega), Bool.true_and, show 7 - (i - l.length) = 7 - i % 8 - (8 - l.length % 8) by omega]
        congr 1
        rw [decide_eq_decide]; omega
      · rw [decide_eq_false hc, Bool.false_and, decide_eq_false (show ¬ i - l.length < n by omega), Bool.false_and]

theorem num_hi {v w n : Nat} (h0 : n ≤ w) (hn : n ≤ 8) : hi (v >>> (w - n) <<< (8 - n) % 256) n = (num v w).take n := by
  apply getD_ext (by simp [hi_length, num_length]; omega)
  intro i hi'
  rw [hi_length] at hi'
  rw [hi_getD, decide_eq_true hi', Bool.true_and, show 256 = 2 ^ 8 from rfl, Nat.testBit_mod_two_pow, decide_eq_true (by omega), Bool.true_and, Nat.testBit_shiftLeft, decide_eq_true (by omega), Bool.true_and, Nat.testBit_shiftRight]
  have : ((num v w).take n).getD i false = (num v w).getD i false := by
    simp only [List.getD_eq_getElem?_getD]; rw [List.getElem?_take, if_pos hi']
  rw [this, num_getD (by omega)]
  congr 1; omega
theorem oct_hi {l : List Bool} {i n : Nat} (h : i + n ≤ l.length) (hn : n ≤ 8) : hi (oct fun j => l.getD (i + j) false) n = (l.drop i).take n := by
  apply getD_ext (by simp [hi_length]; omega)
  intro k hk
  rw [hi_length] at hk
  rw [hi_getD, decide_eq_true hk, Bool.true_and, oct_testBit, decide_eq_true (by omega), Bool.true_and, show 7 - (7 - k) = k by omega]
  simp only [List.getD_eq_getElem?_getD]; rw [List.getElem?_take, if_pos hk, List.getElem?_drop]
end
section

abbrev M64 : Nat := 18446744073709551616
structure Vl where
  has : Bool
  prev : Nat
  lead : Nat
  width : Nat
  deriving DecidableEq, Inhabited
def Vl.wf (s : Vl) : Prop := s.prev < 18446744073709551616 ∧ s.lead < 256 ∧ s.width < 256
def Vl.zero : Vl := ⟨false, 0, 0, 0⟩

def soundV (s : Vl) : Bool :=
  if s.has then decide (s.lead ≤ 31) && decide (s.lead + s.width ≤ 64) && (decide (0 < s.width) || decide (s.lead = 0)) else decide (s.prev = 0) && decide (s.lead = 0) && decide (s.width = 0)

def lz (d : Nat) : Nat := 64 - Lib.bitLen d
def tz (d : Nat) : Nat := Lib.ctz 64 d

theorem bitLen_bits : ∀ (f d : Nat), d < 2 ^ f → d ≠ 0 → 0 < Lib.bitLenAux f d ∧ d.testBit (Lib.bitLenAux f d - 1) = true ∧ d < 2 ^ Lib.bitLenAux f d
  | 0, d, h, h0 => by simp at h; omega
  | f + 1, d, h, h0 => by
    simp only [Lib.bitLenAux, if_neg h0]
    by_cases h1 : d / 2 = 0
    · have hd : d = 1 := by omega
      subst hd
      have e : Lib.bitLenAux f (1 / 2) = 0 := by cases f <;> simp [Lib.bitLenAux]
      rw [e]; decide
    · obtain ⟨a, b, c⟩ := bitLen_bits f (d / 2) (by rw [Nat.pow_succ] at h; omega) h1
      refine ⟨by omega, ?_, ?_⟩
      · obtain ⟨k, hk⟩ : ∃ k, Lib.bitLenAux f (d / 2) = k + 1 := ⟨Lib.bitLenAux f (d / 2) - 1, by omega⟩
        rw [hk] at b ⊢
        rw [show 1 + (k + 1) - 1 = k + 1 by omega, Nat.testBit_succ]
        simpa using b
      · rw [Nat.add_comm 1, Nat.pow_succ]; omega

theorem lz_spec {d : Nat} (h : d < 18446744073709551616) (h0 : d ≠ 0) : lz d ≤ 63 ∧ d.testBit (63 - lz d) = true ∧ ∀ i < lz d, d.testBit (63 - i) = false := by
  obtain ⟨a, b, c⟩ := bitLen_bits 64 d h h0
  have hle := Lib.bitLen_le d 64 (Nat.le_refl _) h
  unfold lz
  change 0 < Lib.bitLen d at a
  change d.testBit (Lib.bitLen d - 1) = true at b
  change d < 2 ^ Lib.bitLen d at c
  refine ⟨by omega, by rw [show 63 - (64 - Lib.bitLen d) = Lib.bitLen d - 1 by omega]; exact b, fun i hi => ?_⟩
  exact Nat.testBit_lt_two_pow (Nat.lt_of_lt_of_le c (Nat.pow_le_pow_right (by omega) (by omega)))

theorem ctz_bits : ∀ (f d : Nat), 0 < d → d < 2 ^ f → Lib.ctzFrom f d < f ∧ d.testBit (Lib.ctzFrom f d) = true ∧ ∀ i < Lib.ctzFrom f d, d.testBit i = false
  | 0, d, h0, h => by simp at h; omega
  | f + 1, d, h0, h => by
    unfold Lib.ctzFrom
    split
    · rename_i h1
      exact ⟨by omega, by rw [Nat.testBit_zero]; simpa using h1, fun i hi => by omega⟩
    · rename_i h1
      obtain ⟨a, b, c⟩ := ctz_bits f (d / 2) (by omega) (by rw [Nat.pow_succ] at h; omega)
      refine ⟨by omega, by rw [Nat.add_comm 1, Nat.testBit_succ]; exact b, fun i hi => ?_⟩
      cases i with
      | zero => rw [Nat.testBit_zero]; simpa using h1
      | succ i => rw [Nat.testBit_succ]; exact c i (by omega)

theorem tz_spec {d : Nat} (h : d < 18446744073709551616) (h0 : d ≠ 0) : tz d ≤ 63 ∧ d.testBit (tz d) = true ∧ ∀ i < tz d, d.testBit i = false := by
  obtain ⟨a, b, c⟩ := ctz_bits 64 d (by omega) h
  unfold tz Lib.ctz
  rw [if_neg h0]
  exact ⟨by omega, b, c⟩

theorem lz_tz {d : Nat} (h : d < 18446744073709551616) (h0 : d ≠ 0) : lz d + tz d ≤ 63 := by
  obtain ⟨a1, a2, a3⟩ := lz_spec h h0
  obtain ⟨b1, b2, b3⟩ := tz_spec h h0
  apply Nat.le_of_not_lt
  intro hh
  have := b3 (63 - lz d) (by omega)
  rw [this] at a2; cases a2

def inBand (lead size d : Nat) : Bool := decide (0 < size) && decide (lead ≤ lz d) && decide (64 - lead - size ≤ tz d)
def aLead (d : Nat) : Nat := min (lz d) 31
def aSize (d : Nat) : Nat := 64 - aLead d - tz d

theorem around_le {d : Nat} (h : d < 18446744073709551616) (h0 : d ≠ 0) : aLead d ≤ 31 ∧ aLead d ≤ lz d ∧ 0 < aSize d ∧ aLead d + aSize d ≤ 64 ∧ aSize d ≤ 64 ∧ 64 - aLead d - aSize d = tz d ∧ aLead d + aSize d + tz d = 64 := by
  have := lz_tz h h0
  unfold aSize
  have : aLead d ≤ lz d := Nat.min_le_left _ _
  have : aLead d ≤ 31 := Nat.min_le_right _ _
  omega

def written (s : Vl) (v : Nat) : List Bool × Vl :=
  if s.has then
    if v ^^^ s.prev = 0 then ([false], { s with prev := v })
    else if inBand s.lead s.width (v ^^^ s.prev) then ([true, false] ++ num ((v ^^^ s.prev) >>> (64 - s.lead - s.width)) s.width, { s with prev := v })
    else ([true, true] ++ num (aLead (v ^^^ s.prev)) 5 ++ num (aSize (v ^^^ s.prev) - 1) 6 ++ num ((v ^^^ s.prev) >>> tz (v ^^^ s.prev)) (aSize (v ^^^ s.prev)), ⟨true, v, aLead (v ^^^ s.prev), aSize (v ^^^ s.prev)⟩)
  else (num v 64, ⟨true, v, 0, 0⟩)

theorem soundV_has {s : Vl} (h : soundV s = true) (hh : s.has = true) : s.lead ≤ 31 ∧ s.lead + s.width ≤ 64 ∧ (0 < s.width ∨ s.lead = 0) := by
  unfold soundV at h
  rw [if_pos hh] at h
  simp only [Bool.and_eq_true, Bool.or_eq_true, decide_eq_true_eq] at h
  exact ⟨h.1.1, h.1.2, h.2⟩
theorem written_sound {s : Vl} {v : Nat} (hs : soundV s = true) (hw : s.wf) (hv : v < 18446744073709551616) : soundV (written s v).2 = true ∧ (written s v).2.has = true ∧ (written s v).2.prev = v ∧ (written s v).2.wf := by
  unfold written
  cases hh : s.has
  · simp [soundV, Vl.wf, hv]
  · have h := soundV_has hs hh
    obtain ⟨w1, w2, w3⟩ := hw
    simp only [if_true]
    split
    · refine ⟨?_, rfl, rfl, ?_⟩
      · simp only [soundV, if_true, Bool.and_eq_true, Bool.or_eq_true, decide_eq_true_eq]; omega
      · simp only [Vl.wf]; omega
    · rename_i h0
      split
      · refine ⟨?_, rfl, rfl, ?_⟩
        · simp only [soundV, if_true, Bool.and_eq_true, Bool.or_eq_true, decide_eq_true_eq]; omega
        · simp only [Vl.wf]; omega
      · have hd : v ^^^ s.prev < 18446744073709551616 := Nat.xor_lt_two_pow (n := 64) hv w1
        have := around_le hd h0
        refine ⟨?_, rfl, rfl, ?_⟩
        · simp only [soundV, if_true, Bool.and_eq_true, Bool.or_eq_true, decide_eq_true_eq]; omega
        · simp only [Vl.wf]; omega

theorem written_len {s : Vl} {v : Nat} (hs : soundV s = true) (hw : s.wf) (hv : v < 18446744073709551616) : (written s v).1.length ≤ 77 ∧ 0 < (written s v).1.length := by
  unfold written
  cases hh : s.has
  · simp [num_length]
  · have h := soundV_has hs hh
    simp only [if_true]
    split
    · simp
    · rename_i h0
      split
      · simp [num_length]; omega
      · have hd : v ^^^ s.prev < 18446744073709551616 := Nat.xor_lt_two_pow (n := 64) hv hw.1
        have := around_le hd h0
        simp [num_length]; omega
/-! ### Reading -/

def getN (l : List Bool) (at_ : Int) (width : Nat) : Nat × Nat :=
  if 0 ≤ at_ ∧ at_ + width ≤ l.length then (val ((l.drop at_.toNat).take width), 0) else (0, 10)

theorem getN_lt (l : List Bool) (at_ : Int) (width : Nat) : (getN l at_ width).1 < 2 ^ width := by
  unfold getN
  split
  · have := val_lt ((l.drop at_.toNat).take width)
    refine Nat.lt_of_lt_of_le this (Nat.pow_le_pow_right (by omega) ?_)
    simp; omega
  · exact Nat.two_pow_pos _
theorem getN_ok {l : List Bool} {at_ : Int} {width : Nat} (h : (getN l at_ width).2 = 0) : 0 ≤ at_ ∧ at_ + width ≤ l.length ∧ num (getN l at_ width).1 width = (l.drop at_.toNat).take width := by
  unfold getN at *
  split at h
  · rename_i hc
    refine ⟨hc.1, hc.2, ?_⟩
    rw [if_pos hc]
    have := num_val ((l.drop at_.toNat).take width)
    have e : ((l.drop at_.toNat).take width).length = width := by simp; omega
    rwa [e] at this
  · simp at h
theorem getN_num (a r : List Bool) {v width : Nat} (hv : v < 2 ^ width) : getN (a ++ (num v width ++ r)) a.length width = (v, 0) := by
  unfold getN
  rw [if_pos (by simp [num_length]; omega)]
  congr 1
  rw [Int.toNat_natCast, List.drop_left' rfl, List.take_left' (num_length _ _), val_num, Nat.mod_eq_of_lt hv]

def valueX (l : List Bool) (at_ : Int) (s : Vl) : Nat × Nat × Nat :=
  if s.has then
    if (getN l at_ 1).2 ≠ 0 ∨ (getN l at_ 1).1 = 0 then (s.prev, 1, (getN l at_ 1).2)
    else if (getN l (at_ + 1) 1).2 ≠ 0 then (0, 0, (getN l (at_ + 1) 1).2)
    else if (getN l (at_ + 1) 1).1 = 0 then
      if (getN l (at_ + 2) s.width).2 ≠ 0 then (0, 0, (getN l (at_ + 2) s.width).2)
      else (s.prev ^^^ ((getN l (at_ + 2) s.width).1 <<< (64 - s.lead - s.width) % 18446744073709551616), 2 + s.width, 0)
    else if (getN l (at_ + 2) 5).2 ≠ 0 then (0, 0, (getN l (at_ + 2) 5).2)
    else if (getN l (at_ + 7) 6).2 ≠ 0 then (0, 0, (getN l (at_ + 7) 6).2)
    else if (getN l (at_ + 2) 5).1 + ((getN l (at_ + 7) 6).1 + 1) > 64 then (0, 0, 30)
    else if (getN l (at_ + 13) ((getN l (at_ + 7) 6).1 + 1)).2 ≠ 0 then (0, 0, (getN l (at_ + 13) ((getN l (at_ + 7) 6).1 + 1)).2)
    else (s.prev ^^^ ((getN l (at_ + 13) ((getN l (at_ + 7) 6).1 + 1)).1 <<< (64 - (getN l (at_ + 2) 5).1 - ((getN l (at_ + 7) 6).1 + 1)) % 18446744073709551616), 13 + ((getN l (at_ + 7) 6).1 + 1), 0)
  else ((getN l at_ 64).1, 64, (getN l at_ 64).2)

def getX (l : List Bool) (at_ : Int) (s : Vl) : Nat × Int × Vl × Nat :=
  if at_ < 0 ∨ l.length < at_ then (0, 0, Vl.zero, 10)
  else if (valueX l at_ s).2.2 ≠ 0 then (0, 0, Vl.zero, (valueX l at_ s).2.2)
  else if (written s (valueX l at_ s).1).1 = (l.drop at_.toNat).take (valueX l at_ s).2.1 then ((valueX l at_ s).1, at_ + (valueX l at_ s).2.1, (written s (valueX l at_ s).1).2, 0)
  else (0, 0, Vl.zero, 30)

theorem shl_shr {d k : Nat} (hd : d < 18446744073709551616) (h : ∀ i < k, d.testBit i = false) : (d >>> k) <<< k % 18446744073709551616 = d := by
  rw [Nat.mod_eq_of_lt (Nat.lt_of_le_of_lt (by rw [Nat.shiftRight_eq_div_pow, Nat.shiftLeft_eq]; exact Nat.div_mul_le_self _ _) hd)]
  apply Nat.eq_of_testBit_eq
  intro i
  rw [Nat.testBit_shiftLeft, Nat.testBit_shiftRight]
  by_cases hi : i ≥ k
  · rw [decide_eq_true hi, Bool.true_and, show k + (i - k) = i by omega]
  · rw [decide_eq_false hi, Bool.false_and, h i (by omega)]
theorem shr_lt_pow {d k n : Nat} (hd : d < 18446744073709551616) (h : ∀ i < 64 - k - n, d.testBit (63 - i) = false) (hkn : k + n ≤ 64) : d >>> k < 2 ^ n := by
  apply Nat.lt_pow_two_of_testBit
  intro i hi
  rw [Nat.testBit_shiftRight]
  by_cases h64 : k + i < 64
  · have := h (63 - (k + i)) (by omega)
    rwa [show 63 - (63 - (k + i)) = k + i by omega] at this
  · exact Nat.testBit_lt_two_pow (Nat.lt_of_lt_of_le hd (by rw [show 18446744073709551616 = 2 ^ 64 from rfl]; exact Nat.pow_le_pow_right (by omega) (by omega)))

theorem xor_back (v p : Nat) : p ^^^ (v ^^^ p) = v := by
  rw [Nat.xor_comm v p, ← Nat.xor_assoc, Nat.xor_self, Nat.zero_xor]

theorem inBand_spec {lead size d : Nat} (hd : d < 18446744073709551616) (h0 : d ≠ 0) (hb : inBand lead size d = true) (hl : lead + size ≤ 64) :
    d >>> (64 - lead - size) < 2 ^ size ∧ (d >>> (64 - lead - size)) <<< (64 - lead - size) % 18446744073709551616 = d := by
  simp only [inBand, Bool.and_eq_true, decide_eq_true_eq] at hb
  obtain ⟨⟨h1, h2⟩, h3⟩ := hb
  have a := lz_spec hd h0
  have b := tz_spec hd h0
  exact ⟨shr_lt_pow hd (fun i hi => a.2.2 i (by omega)) (by omega), shl_shr hd (fun i hi => b.2.2 i (by omega))⟩

theorem value_written (a r : List Bool) {s : Vl} {v : Nat} (hs : soundV s = true) (hw : s.wf) (hv : v < 18446744073709551616) :
    valueX (a ++ ((written s v).1 ++ r)) a.length s = (v, (written s v).1.length, 0) := by
  unfold valueX
  cases hh : s.has
  · simp only [written, hh, Bool.false_eq_true, if_false]
    rw [getN_num a r (by exact hv)]
    simp [num_length]
  · have h := soundV_has hs hh
    obtain ⟨w1, w2, w3⟩ := hw
    have hd : v ^^^ s.prev < 18446744073709551616 := Nat.xor_lt_two_pow (n := 64) hv w1
    simp only [if_true]
    by_cases h0 : v ^^^ s.prev = 0
    · have e : written s v = ([false], { s with prev := v }) := by unfold written; rw [if_pos hh, if_pos h0]
      have g : getN (a ++ ([false] ++ r)) a.length 1 = (0, 0) := getN_num a r (v := 0) (width := 1) (by decide)
      have hp : s.prev = v := by
        have := xor_back v s.prev
        rw [h0, Nat.xor_zero] at this; exact this
      rw [e]
      simp only [g, hp]
      simp
    · by_cases hb : inBand s.lead s.width (v ^^^ s.prev) = true
      · have e : written s v = ([true, false] ++ num ((v ^^^ s.prev) >>> (64 - s.lead - s.width)) s.width, { s with prev := v }) := by unfold written; rw [if_pos hh, if_neg h0, if_pos hb]
        obtain ⟨b1, b2⟩ := inBand_spec hd h0 hb h.2.1
        rw [e]
        have g1 : getN (a ++ (([true, false] ++ num ((v ^^^ s.prev) >>> (64 - s.lead - s.width)) s.width) ++ r)) a.length 1 = (1, 0) := getN_num a ([false] ++ num ((v ^^^ s.prev) >>> (64 - s.lead - s.width)) s.width ++ r) (v := 1) (width := 1) (by decide)
        have g2 : getN (a ++ (([true, false] ++ num ((v ^^^ s.prev) >>> (64 - s.lead - s.width)) s.width) ++ r)) (a.length + 1) 1 = (0, 0) := by
          have := getN_num (a ++ [true]) (num ((v ^^^ s.prev) >>> (64 - s.lead - s.width)) s.width ++ r) (v := 0) (width := 1) (by decide)
          simpa [num] using this
        have g3 : getN (a ++ (([true, false] ++ num ((v ^^^ s.prev) >>> (64 - s.lead - s.width)) s.width) ++ r)) (a.length + 2) s.width = ((v ^^^ s.prev) >>> (64 - s.lead - s.width), 0) := by
          have := getN_num (a ++ [true, false]) r b1
          simpa using this
        rw [g1, g2, g3]
        simp only [b2, xor_back]
        simp [num_length]; omega
      · have e : written s v = ([true, true] ++ num (aLead (v ^^^ s.prev)) 5 ++ num (aSize (v ^^^ s.prev) - 1) 6 ++ num ((v ^^^ s.prev) >>> tz (v ^^^ s.prev)) (aSize (v ^^^ s.prev)), ⟨true, v, aLead (v ^^^ s.prev), aSize (v ^^^ s.prev)⟩) := by
          unfold written; rw [if_pos hh, if_neg h0, if_neg hb]
        have hA := around_le hd h0
        have hla := lz_spec hd h0
        have hta := tz_spec hd h0
        rw [e]
        generalize hdd : v ^^^ s.prev = d at *
        have hx : s.prev ^^^ d = v := by rw [← hdd]; exact xor_back v s.prev
        have b1 : d >>> tz d < 2 ^ aSize d := shr_lt_pow hd (fun i hi => hla.2.2 i (by omega)) (by omega)
        have b2 : (d >>> tz d) <<< tz d % 18446744073709551616 = d := shl_shr hd hta.2.2
        generalize hL : aLead d = L at *
        generalize hS : aSize d = S at *
        have g1 : getN (a ++ (([true, true] ++ num L 5 ++ num (S - 1) 6 ++ num (d >>> tz d) S) ++ r)) a.length 1 = (1, 0) := by
          have := getN_num a ([true] ++ num L 5 ++ num (S - 1) 6 ++ num (d >>> tz d) S ++ r) (v := 1) (width := 1) (by decide)
          simpa [num] using this
        have g2 : getN (a ++ (([true, true] ++ num L 5 ++ num (S - 1) 6 ++ num (d >>> tz d) S) ++ r)) (a.length + 1) 1 = (1, 0) := by
          have := getN_num (a ++ [true]) (num L 5 ++ num (S - 1) 6 ++ num (d >>> tz d) S ++ r) (v := 1) (width := 1) (by decide)
          simpa [num] using this
        have g3 : getN (a ++ (([true, true] ++ num L 5 ++ num (S - 1) 6 ++ num (d >>> tz d) S) ++ r)) (a.length + 2) 5 = (L, 0) := by
          have := getN_num (a ++ [true, true]) (num (S - 1) 6 ++ num (d >>> tz d) S ++ r) (v := L) (width := 5) (by omega)
          simpa using this
        have g4 : getN (a ++ (([true, true] ++ num L 5 ++ num (S - 1) 6 ++ num (d >>> tz d) S) ++ r)) (a.length + 7) 6 = (S - 1, 0) := by
          have := getN_num (a ++ [true, true] ++ num L 5) (num (d >>> tz d) S ++ r) (v := S - 1) (width := 6) (by omega)
          simpa [num_length, Int.add_assoc] using this
        have g5 : getN (a ++ (([true, true] ++ num L 5 ++ num (S - 1) 6 ++ num (d >>> tz d) S) ++ r)) (a.length + 13) S = (d >>> tz d, 0) := by
          have := getN_num (a ++ [true, true] ++ num L 5 ++ num (S - 1) 6) r b1
          simpa [num_length, Int.add_assoc] using this
        rw [g1, g2, g3, g4]
        simp only [show S - 1 + 1 = S by omega, g5, show 64 - L - S = tz d by omega, b2, hx]
        rw [if_neg (by simp), if_neg (by simp), if_neg (by simp), if_neg (by simp), if_neg (by simp), if_neg (by omega), if_neg (by simp)]
        simp [num_length]; omega

theorem getX_written (a r : List Bool) {s : Vl} {v : Nat} (hs : soundV s = true) (hw : s.wf) (hv : v < 18446744073709551616) :
    getX (a ++ ((written s v).1 ++ r)) a.length s = (v, ((a.length + (written s v).1.length : Nat) : Int), (written s v).2, 0) := by
  unfold getX
  rw [if_neg (by simp; omega), value_written a r hs hw hv]
  simp only [ne_eq, not_true, if_false]
  rw [if_pos (by rw [Int.toNat_natCast, List.drop_left' rfl, List.take_left' rfl])]
  simp

theorem value_len {l : List Bool} {at_ : Int} {s : Vl} (h : (valueX l at_ s).2.2 = 0) : at_ + (valueX l at_ s).2.1 ≤ l.length := by
  unfold valueX at *
  cases hh : s.has
  · simp only [hh, Bool.false_eq_true, if_false] at h ⊢
    exact (getN_ok h).2.1
  · simp only [hh, if_true] at h ⊢
    by_cases c1 : (getN l at_ 1).2 ≠ 0 ∨ (getN l at_ 1).1 = 0
    · simp only [if_pos c1] at h ⊢
      exact (getN_ok h).2.1
    · simp only [if_neg c1] at h ⊢
      by_cases c2 : (getN l (at_ + 1) 1).2 ≠ 0
      · rw [if_pos c2] at h; exact absurd h c2
      · simp only [if_neg c2] at h ⊢
        by_cases c3 : (getN l (at_ + 1) 1).1 = 0
        · simp only [if_pos c3] at h ⊢
          by_cases c4 : (getN l (at_ + 2) s.width).2 ≠ 0
          · rw [if_pos c4] at h; exact absurd h c4
          · simp only [if_neg c4]
            have := (getN_ok (by simpa using c4)).2.1
            omega
        · simp only [if_neg c3] at h ⊢
          by_cases c4 : (getN l (at_ + 2) 5).2 ≠ 0
          · rw [if_pos c4] at h; exact absurd h c4
          · simp only [if_neg c4] at h ⊢
            by_cases c5 : (getN l (at_ + 7) 6).2 ≠ 0
            · rw [if_pos c5] at h; exact absurd h c5
            · simp only [if_neg c5] at h ⊢
              by_cases c6 : (getN l (at_ + 2) 5).1 + ((getN l (at_ + 7) 6).1 + 1) > 64
              · simp [if_pos c6] at h
              · simp only [if_neg c6] at h ⊢
                by_cases c7 : (getN l (at_ + 13) ((getN l (at_ + 7) 6).1 + 1)).2 ≠ 0
                · rw [if_pos c7] at h; exact absurd h c7
                · simp only [if_neg c7]
                  have := (getN_ok (by simpa using c7)).2.1
                  omega

theorem getX_ok {l : List Bool} {at_ : Int} {s t : Vl} {v : Nat} {n : Int} (h : getX l at_ s = (v, n, t, 0)) : 0 ≤ at_ ∧ at_ ≤ n ∧ n ≤ l.length ∧ (written s v).2 = t ∧ (written s v).1 = (l.drop at_.toNat).take (n.toNat - at_.toNat) := by
  unfold getX at h
  split at h
  · simp at h
  · rename_i h1
    split at h
    · rename_i h2; simp only [Prod.mk.injEq] at h; exact absurd h.2.2.2 h2
    · rename_i h2
      split at h
      · rename_i h3
        simp only [Prod.mk.injEq, and_true] at h
        obtain ⟨rfl, rfl, rfl⟩ := h
        have hle := value_len (by simpa using h2)
        refine ⟨by omega, by omega, by omega, rfl, ?_⟩
        rw [h3]; congr 1; omega
      · simp at h
end
section

theorem take_two {l : List Bool} {i a b : Nat} : (l.drop i).take (a + b) = (l.drop i).take a ++ (l.drop (i + a)).take b := by
  rw [List.take_add, List.drop_drop]
theorem getN_in {l : List Bool} {at_ : Int} {w : Nat} (h : (getN l at_ w).2 = 0) : ∃ i : Nat, at_ = i ∧ i + w ≤ l.length ∧ (l.drop i).take w = num (getN l i w).1 w := by
  obtain ⟨h1, h2, h3⟩ := getN_ok h
  obtain ⟨i, rfl⟩ : ∃ i : Nat, at_ = i := ⟨at_.toNat, by omega⟩
  exact ⟨i, rfl, by omega, by rw [h3, Int.toNat_natCast]⟩

section
variable {l : List Bool} {at_ : Int} {s : Vl}
end
end
section

end
section
open Go.RowKit

theorem Sl.ov {α : Type} {sz : Nat} {cells : α → List Value} {w w' : World} {a : Option Addr} {cap : Nat} {xs : List α} (h : Sl sz cells w a cap xs) (ho : ∃ e, w' = Go.Proofs.YtnihngljmmbenaaGreatDoor.over w e) : Sl sz cells w' a cap xs := by
  obtain ⟨e, rfl⟩ := ho; exact h.over e
theorem heap_chg_in (F : List Nat) (w : World) (m : Mut) (k : Nat) (h : k < w.heap.size) (hF : k ∈ F) : (chg F w m).heap[k]? = some (m.f k) := by
  unfold chg
  show (_ ++ m.e.heap)[k]? = _
  rw [Array.getElem?_append_left (by simpa using h), Array.getElem?_mapIdx]
  simp [hF, Array.getElem?_eq_getElem h]
theorem heap_chg_new (F : List Nat) (w : World) (m : Mut) (k : Nat) (h : w.heap.size ≤ k) : (chg F w m).heap[k]? = m.e.heap[k - w.heap.size]? := by
  unfold chg
  show (_ ++ m.e.heap)[k]? = _
  rw [Array.getElem?_append_right (by simpa using h)]
  simp
theorem chS_chgs {F G : List Nat} {a b : World} (h : ChS F a b) (m : Mut) : ChS F (chg G a m) (chg G b m) := by
  have ha := chg_chg G a m
  have hb := chg_chg G b m
  refine ⟨⟨hb.os.trans (h.1.os.trans ha.os.symm), hb.tape.trans (h.1.tape.trans ha.tape.symm), hb.output.trans (h.1.output.trans ha.output.symm), by simp [h.2], fun k hk hn => ?_⟩, by simp [h.2]⟩
  by_cases hka : k < a.heap.size
  · by_cases hG : k ∈ G
    · rw [heap_chg_in G b m k (by rw [h.2]; exact hka) hG, heap_chg_in G a m k hka hG]
    · rw [heap_chg G b m k (by rw [h.2]; exact hka) hG, heap_chg G a m k hka hG]; exact h.1.block k hka hn
  · rw [heap_chg_new G b m k (by rw [h.2]; omega), heap_chg_new G a m k (by omega), h.2]
theorem chS_set {F : List Nat} {a b : World} (h : ChS F a b) (q : Addr) (hq : q.block ∈ F) (u : Value) : ChS F a (b.setCell q u) := ⟨h.1.setCell (.inl hq) u, by have := h.2; simpa using this⟩
theorem chg_drew (F : List Nat) (w : World) (m : Mut) : chg F w.drew m = chg F w m := by unfold chg World.drew; rfl
theorem gen_w {Q : Act → World → Prop} {a : Act} {w : World} (h : ∀ W, W = w → Q a W) : Q a w := h w rfl
theorem chA {F : List Nat} {w W : World} (k : Chg F w W := by repeat (first | with_reducible exact Chg.refl _ _ | (focus (refine ChS.chg ?_; (repeat (first | with_reducible exact ChS.refl _ _ | with_reducible refine ChS.drewl ?_ | with_reducible refine ChS.drewr ?_ | with_reducible refine ChS.over ?_ _ | with_reducible refine chS_chgs ?_ _ | ((with_reducible refine chS_set ?_ _ ?_ _); rotate_left; (first | assumption | (focus (simp; done)) | (focus (simp; assumption)))) | with_reducible refine ChS.alloc ?_ _ | ((with_reducible refine ChS.lit ?_ ?_ _ _); rotate_left; (first | assumption | (focus (simp; done)) | (focus (simp; assumption)))) | with_reducible refine ChS.alloc ?_ _)); done)) | with_reducible refine Chg.alloc ?_ _ | with_reducible refine Chg.drew ?_ | with_reducible refine Chg.on ?_ _ | ((with_reducible refine Chg.setCell ?_ ?_ _); rotate_left; (first | (focus (left; assumption)) | (focus (left; simp; done)) | (focus (right; simp; done)) | (focus (right; simp; omega)) | (focus (left; simp; omega)))) | ((with_reducible refine Chg.in_ ?_ _ ?_); rotate_left; (first | assumption | (focus (intro i hi; left; simp at hi; subst hi; assumption)) | exact fun i hi => Or.inl hi | (focus (intro i hi; left; simp [hi]; done)) | (focus (intro i hi; left; simp at hi ⊢; simp [hi]; done)) | (focus (intro i hi; simp at hi ⊢; simp [hi]; done)) | (focus (intro i hi; simp at hi ⊢; omega)))))) : Chg F w W := k
end
section
namespace M2
section
variable {P : Program} {ops : Array Oper} {md : Region.Mode} {C R : World → Prop} {D : Nat → World → Prop} {z : Nat} {E : List Nat} {Q : Act → World → Prop}

theorem mix_set_first {n m : Nat} (S : List Nat) (hne : S ≠ []) (hcov : Cov md ops E z m) (hsel : ∀ (j : Nat) (o : Oper) cs b, ops[j]? = some o → o.op ≠ .select cs b) (hS : ∀ p ∈ S, E.contains p = true ∧ ∃ op, ops[p]? = some op) :
    ∀ (f : Nat) (listed : Array Bool) (a : Act) (w : World), Cl C E z listed w → ClosedL md ops listed →
      (∀ j oj, ops[j]? = some oj → j ∉ S → listed.getD j true = false →
        (E.contains j = true ∧ ∃ q ∈ S, Region.dep md ops n q j = true) ∨ (E.contains j = false ∧ ∀ p ∈ S, (∃ e ∈ oj.after, Region.binds md e = true ∧ e.on = p) ∨ ∀ op, ops[p]? = some op → op.apart ops oj = true ∧ oj.apart ops op = true)) →
      (∀ p ∈ S, p ∈ Region.ready md ops listed) →
      (∀ p ∈ S, mixOp P ops (Dz ops C z) E (Cl C E z (listed.setIfInBounds p true)) p (fun a' w' => Cl C E z (listed.setIfInBounds p true) w' → wpAnyM P md ops C z E Q f (listed.setIfInBounds p true) a' w') a w) → wpAnyM P md ops C z E Q (f + 1) listed a w := by
  intro f
  obtain ⟨p0, hp0⟩ := List.exists_mem_of_ne_nil S hne
  induction f with
  | zero =>
    intro listed a w hw hcl hfree hr H
    refine ⟨fun h => (by have := hr p0 hp0; rw [h] at this; cases this), fun j hj => ?_⟩
    by_cases hjS : j ∈ S
    · exact H j hjS
    · exfalso
      have hjp : j ≠ p0 := fun h => hjS (h ▸ hp0)
      obtain ⟨hE0, op0, hop0⟩ := hS p0 hp0
      have hj2 := ready_mono (i := p0) hj hjp
      obtain ⟨_, _, _, _, h0, _⟩ := mix_outcome hop0 hE0 (hw.mono p0) (H p0 hp0)
      rw [h0] at hj2
      cases hj2
  | succ f ih =>
    intro listed a w hw hcl hfree hr H
    refine ⟨fun h => (by have := hr p0 hp0; rw [h] at this; cases this), fun j hj => ?_⟩
    by_cases hjS : j ∈ S
    · exact H j hjS
    · obtain ⟨hjun, oj, hoj, hall⟩ := mem_ready.1 hj
      have hjp : ∀ p ∈ S, j ≠ p := fun p hp h => hjS (h ▸ hp)
      have hpn : ∀ p ∈ S, listed.getD p false = false := fun p hp => getD_both (mem_ready.1 (hr p hp)).1
      have hnot : ∀ p ∈ S, ¬ ∃ e ∈ oj.after, Region.binds md e = true ∧ e.on = p := fun p hp ⟨e, he, hb, heq⟩ => by
        have h1 := hall e he hb
        rw [heq, hpn p hp] at h1
        cases h1
      have hEj : E.contains j = false := by
        rcases hfree j oj hoj hjS hjun with ⟨_, q, hq, hd⟩ | ⟨h, _⟩
        · exact absurd hj (dep_unlisted hcl (hpn q hq) n j hd).2
        · exact h
      have hapS : ∀ p ∈ S, ∀ op, ops[p]? = some op → op.apart ops oj = true ∧ oj.apart ops op = true := fun p hp op hop => by
        rcases hfree j oj hoj hjS hjun with ⟨h, _⟩ | ⟨_, h⟩
        · rw [hEj] at h; cases h
        · rcases h p hp with h | h
          · exact absurd h (hnot p hp)
          · exact h op hop
      have sj := fun cs b => hsel j oj cs b hoj
      have hjs : j < ops.size := (Array.getElem?_eq_some_iff.1 hoj).1
      have hfree' : ∀ k ok, ops[k]? = some ok → k ∉ S → (listed.setIfInBounds j true).getD k true = false →
          (E.contains k = true ∧ ∃ q ∈ S, Region.dep md ops n q k = true) ∨ (E.contains k = false ∧ ∀ p ∈ S, (∃ e ∈ ok.after, Region.binds md e = true ∧ e.on = p) ∨ ∀ op, ops[p]? = some op → op.apart ops ok = true ∧ ok.apart ops op = true) := by
        intro k ok hk hkS hun
        refine hfree k ok hk hkS ?_
        by_cases hjk : j = k
        · subst hjk; exact hjun
        · rw [getD_set_ne true hjk] at hun; exact hun
      have hr' : ∀ p ∈ S, p ∈ Region.ready md ops (listed.setIfInBounds j true) := fun p hp => ready_mono (i := j) (hr p hp) (fun h => hjp p hp h.symm)
      -- for each p: behind p, j comes up
      have H2 : ∀ p ∈ S, mixOp P ops (Dz ops C z) E (Cl C E z (listed.setIfInBounds p true)) p (fun a' w' => Cl C E z (listed.setIfInBounds p true) w' → mixOp P ops (Dz ops C z) E (Cl C E z ((listed.setIfInBounds j true).setIfInBounds p true)) j (fun a'' w'' => Cl C E z ((listed.setIfInBounds j true).setIfInBounds p true) w'' → wpAnyM P md ops C z E Q f ((listed.setIfInBounds j true).setIfInBounds p true) a'' w'') a' w') a w := fun p hp => by
        have := mixOp_mono (fun _ h => h) (fun a' w' hk hw' => (hk hw').2 j (ready_mono hj (hjp p hp))) (H p hp)
        rw [Array.setIfInBounds_comm _ _ (Ne.symm (hjp p hp))] at this
        exact this
      have toJ : ∀ p ∈ S, ∀ w', Cl C E z (listed.setIfInBounds p true) w' → Cl C E z ((listed.setIfInBounds j true).setIfInBounds p true) w' := fun p hp w' h => by
        have := h.mono j
        rw [Array.setIfInBounds_comm _ _ (Ne.symm (hjp p hp))] at this; exact this
      have ofJ : ∀ p ∈ S, ∀ w', Cl C E z ((listed.setIfInBounds j true).setIfInBounds p true) w' → Cl C E z (listed.setIfInBounds p true) w' := fun p hp w' h => by
        rw [Array.setIfInBounds_comm _ _ (hjp p hp)] at h; exact h.quiet hEj
      have inD : ∀ p ∈ S, ∀ w', Cl C E z (listed.setIfInBounds p true) w' → Dz ops C z j w' := fun p hp w' h => hcov.use (hcl.set (hr p hp)) hEj hjs (by rw [getD_set_ne false (Ne.symm (hjp p hp))]; exact getD_both hjun) h
      unfold mixOp
      simp only [hoj, hEj, Bool.false_eq_true, if_false]
      by_cases hwj : Region.wanted oj (yielded ops a.tmps) = true
      · rw [if_pos hwj]
        have opn : ∀ (a' : Act) (w' : World) (R : World → Prop) (K : Act → World → Prop), Region.wanted oj (yielded ops a'.tmps) = true → mixOp P ops (Dz ops C z) E R j K a' w' → ∃ v, Yields P (Dz ops C z j) oj a' v ∧ K (a'.put oj.dst v) w' := fun a' w' R K hwd h => by
          unfold mixOp at h
          simp only [hoj, hEj, hwd, if_true, Bool.false_eq_true, if_false] at h
          exact h
        have hv : ∃ v, Yields P (Dz ops C z j) oj a v := by
          obtain ⟨hE0, op0, hop0⟩ := hS p0 hp0
          obtain ⟨g1, g2, g3⟩ := Oper.apart_spec (hapS p0 hp0 op0 hop0).1
          obtain ⟨x, u, w', hw', h⟩ := mix_outcome hop0 hE0 (hw.mono p0) (H2 p0 hp0)
          obtain ⟨v, hy, _⟩ := opn _ _ _ _ (by rw [wanted_put oj _ op0.dst u g1]; exact hwj) h
          exact ⟨v, hy.of_same (by rw [execOp_put oj sj _ op0.dst u g1]; rfl)⟩
        obtain ⟨v, hv⟩ := hv
        refine ⟨v, hv, fun _ => ?_⟩
        refine ih (listed.setIfInBounds j true) (a.put oj.dst v) w (hw.mono j) (hcl.set hj) hfree' hr' (fun p hp => ?_)
        obtain ⟨hEp, op, hop⟩ := hS p hp
        obtain ⟨k1, k2, k3⟩ := Oper.apart_spec (hapS p hp op hop).2
        have sp := fun cs b => hsel p op cs b hop
        have H3 := mixOp_keep hop (hapS p hp op hop).2 sj (fun a' => Region.wanted oj (yielded ops a'.tmps) = true ∧ Yields P (Dz ops C z j) oj a' v) (fun a' he hwd => ⟨by rw [hwd]; exact hwj, hv.of_same he⟩) (H2 p hp)
        have H4 : mixOp P ops (Dz ops C z) E (Cl C E z ((listed.setIfInBounds j true).setIfInBounds p true)) p (fun a' w' => Cl C E z ((listed.setIfInBounds j true).setIfInBounds p true) w' → wpAnyM P md ops C z E Q f ((listed.setIfInBounds j true).setIfInBounds p true) (a'.put oj.dst v) w') a w := by
          refine mixOp_mono (toJ p hp) (fun a' w' hk hw' => ?_) H3
          obtain ⟨⟨hwd, hy⟩, hk⟩ := hk
          obtain ⟨v', hy', hk'⟩ := opn _ _ _ _ hwd (hk (ofJ p hp _ hw'))
          have : v = v' := hy.unique hy' (inD p hp _ (ofJ p hp _ hw'))
          subst this
          exact hk' hw'
        unfold mixOp at H4 ⊢
        simp only [hop, hEp, if_true] at H4 ⊢
        rw [wanted_put op a oj.dst v k1]
        split
        · rename_i hwp
          rw [if_pos hwp] at H4
          exact wp_put' (execOp_put op sp a oj.dst v k1) (fun x hx => k2 x hx) H4
        · rename_i hwp
          rw [if_neg hwp] at H4
          rw [Act.put_comm a v undef k2]; exact H4
      · rw [if_neg hwj]
        intro _
        refine ih (listed.setIfInBounds j true) (a.put oj.dst undef) w (hw.mono j) (hcl.set hj) hfree' hr' (fun p hp => ?_)
        have hwj' : Region.wanted oj (yielded ops a.tmps) = false := by simpa using hwj
        obtain ⟨hEp, op, hop⟩ := hS p hp
        obtain ⟨k1, k2, k3⟩ := Oper.apart_spec (hapS p hp op hop).2
        have sp := fun cs b => hsel p op cs b hop
        have H3 := mixOp_keep hop (hapS p hp op hop).2 sj (fun a' => Region.wanted oj (yielded ops a'.tmps) = false) (fun a' _ hwd => by rw [hwd]; exact hwj') (H2 p hp)
        have H4 : mixOp P ops (Dz ops C z) E (Cl C E z ((listed.setIfInBounds j true).setIfInBounds p true)) p (fun a' w' => Cl C E z ((listed.setIfInBounds j true).setIfInBounds p true) w' → wpAnyM P md ops C z E Q f ((listed.setIfInBounds j true).setIfInBounds p true) (a'.put oj.dst undef) w') a w := by
          refine mixOp_mono (toJ p hp) (fun a' w' hk hw' => ?_) H3
          obtain ⟨hwd, hk⟩ := hk
          have h := hk (ofJ p hp _ hw')
          unfold mixOp at h
          simp only [hoj, hwd, Bool.false_eq_true, if_false] at h
          exact h hw'
        unfold mixOp at H4 ⊢
        simp only [hop, hEp, if_true] at H4 ⊢
        rw [wanted_put op a oj.dst undef k1]
        split
        · rename_i hwp
          rw [if_pos hwp] at H4
          exact wp_put' (execOp_put op sp a oj.dst undef k1) (fun x hx => k2 x hx) H4
        · rename_i hwp
          rw [if_neg hwp] at H4
          rw [Act.put_comm a undef undef k2]; exact H4

inductive Plan where
  | done
  | no
  | q (k : Nat) (p : Plan)
  | e (k : Nat) (p : Plan) (r : Plan)
  | l (k : Nat)
def Plan.heads : Plan → List Nat
  | .e k _ r => k :: r.heads
  | _ => []
def Plan.depth : Plan → Nat
  | .done => 0
  | .no => 0
  | .q _ p => p.depth + 1
  | .e _ p r => max (p.depth + 1) r.depth
  | .l _ => 1

def wpTree (P : Program) (ops : Array Oper) (C : World → Prop) (Q : Act → World → Prop) : Plan → Act → World → Prop
  | .done, a, w => Q a w
  | .no, _, _ => True
  | .q k p, a, w => ∃ o, ops[k]? = some o ∧ (if Region.wanted o (yielded ops a.tmps) then ∃ v, Yields P C o a v ∧ wpTree P ops C Q p (a.put o.dst v) w else wpTree P ops C Q p (a.put o.dst undef) w)
  | .e k p r, a, w => (∃ o, ops[k]? = some o ∧ (if Region.wanted o (yielded ops a.tmps) then o.wp P a w (fun a' w' => C w' ∧ wpTree P ops C Q p a' w') NoQ else wpTree P ops C Q p (a.put o.dst undef) w)) ∧ wpTree P ops C Q r a w
  | .l k, a, w => ∃ o, ops[k]? = some o ∧ (if Region.wanted o (yielded ops a.tmps) then o.wp P a w (fun a' w' => Q a' w') NoQ else Q (a.put o.dst undef) w)

def Region.setOk (md : Region.Mode) (ops : Array Oper) (E S : List Nat) (listed : Array Bool) : Bool :=
  (S.all fun p => (Region.ready md ops listed).contains p && E.contains p) && (List.range ops.size).all fun j => S.contains j || listed.getD j true || match ops[j]? with
    | none => true
    | some oj => (E.contains j && S.any fun q => Region.dep md ops ops.size q j) || (!E.contains j && S.all fun p => (oj.after.any fun e => Region.binds md e && e.on == p) || match ops[p]? with
      | some op => op.apart ops oj && oj.apart ops op
      | none => false)
def Region.treeB (md : Region.Mode) (ops : Array Oper) (E : List Nat) (z : Nat) : Bool → Plan → Array Bool → Bool
  | true, .done, listed => (Region.ready md ops listed).isEmpty
  | true, .no, _ => false
  | true, .q k p, listed => (Region.ready md ops listed).contains k && !E.contains k && Region.free md ops listed k && decide (k < z) && Region.treeB md ops E z true p (listed.setIfInBounds k true)
  | true, .e k p r, listed => Region.setOk md ops E (k :: r.heads) listed && Region.treeB md ops E z true p (listed.setIfInBounds k true) && Region.treeB md ops E z false r listed
  | true, .l k, listed => (Region.ready md ops listed == [k]) && E.contains k && decide (z ≤ k) && (Region.ready md ops (listed.setIfInBounds k true)).isEmpty
  | false, .e k p r, listed => Region.treeB md ops E z true p (listed.setIfInBounds k true) && Region.treeB md ops E z false r listed
  | false, .no, _ => true
  | false, _, _ => false

theorem setOk_spec {S : List Nat} {listed : Array Bool} (h : Region.setOk md ops E S listed = true) :
    (∀ p ∈ S, p ∈ Region.ready md ops listed ∧ E.contains p = true) ∧
    (∀ j oj, ops[j]? = some oj → j ∉ S → listed.getD j true = false →
        (E.contains j = true ∧ ∃ q ∈ S, Region.dep md ops ops.size q j = true) ∨ (E.contains j = false ∧ ∀ p ∈ S, (∃ e ∈ oj.after, Region.binds md e = true ∧ e.on = p) ∨ ∀ op, ops[p]? = some op → op.apart ops oj = true ∧ oj.apart ops op = true)) := by
  simp only [Region.setOk, Bool.and_eq_true, List.all_eq_true, List.mem_range] at h
  obtain ⟨h1, h2⟩ := h
  refine ⟨fun p hp => ⟨by simpa using (h1 p hp).1, (h1 p hp).2⟩, fun j oj hj hjS hun => ?_⟩
  have h3 := h2 j (Array.getElem?_eq_some_iff.1 hj).1
  have hjS' : S.contains j = false := by
    cases hc : S.contains j
    · rfl
    · exact absurd (List.contains_iff_mem.1 hc) hjS
  simp only [hj, hjS', hun, Bool.false_or, Bool.or_eq_true, Bool.and_eq_true, List.any_eq_true, Bool.not_eq_true', List.all_eq_true] at h3
  rcases h3 with h3 | h3
  · exact .inl h3
  · refine .inr ⟨h3.1, fun p hp => ?_⟩
    rcases h3.2 p hp with h4 | h4
    · obtain ⟨e, he, hb⟩ := Array.any_eq_true'.1 h4
      simp only [Bool.and_eq_true, beq_iff_eq] at hb
      exact .inl ⟨e, he, hb.1, hb.2⟩
    · refine .inr fun op hop => ?_
      simp only [hop, Bool.and_eq_true] at h4
      exact h4

theorem wpAnyM_tree (hsel : Region.noSelect ops = true) {m : Nat} (hcov : Cov md ops E z m) : ∀ (p : Plan) (listed : Array Bool) (a : Act) (w : World), C w → ClosedL md ops listed →
    (Region.treeB md ops E z true p listed = true → wpTree P ops C Q p a w → ∀ f, p.depth ≤ f → wpAnyM P md ops C z E Q f listed a w) ∧
    (Region.treeB md ops E z false p listed = true → (∀ k ∈ p.heads, k ∈ Region.ready md ops listed ∧ E.contains k = true) → wpTree P ops C Q p a w → ∀ f, p.depth ≤ f + 1 → ∀ k ∈ p.heads, mixOp P ops (Dz ops C z) E (Cl C E z (listed.setIfInBounds k true)) k (fun a' w' => Cl C E z (listed.setIfInBounds k true) w' → wpAnyM P md ops C z E Q f (listed.setIfInBounds k true) a' w') a w)
  | .done, listed, a, w, hw, hcl => by
    refine ⟨fun hB h f _ => ?_, fun hB => by simp [Region.treeB] at hB⟩
    have hr : Region.ready md ops listed = [] := by simpa [Region.treeB] using hB
    unfold wpTree at h
    cases f with
    | zero => exact ⟨hr, h⟩
    | succ f => exact ⟨fun _ => h, fun i hi => by rw [hr] at hi; cases hi⟩
  | .no, listed, a, w, hw, hcl => ⟨fun hB => by simp [Region.treeB] at hB, fun _ _ _ _ _ k hk => by simp [Plan.heads] at hk⟩
  | .q k p, listed, a, w, hw, hcl => by
    refine ⟨fun hB h f hf => ?_, fun hB => by simp [Region.treeB] at hB⟩
    simp only [Region.treeB, Bool.and_eq_true, Bool.not_eq_true'] at hB
    obtain ⟨⟨⟨⟨hr, hE⟩, hfr⟩, hkz⟩, hB'⟩ := hB
    have hr' : k ∈ Region.ready md ops listed := by simpa using hr
    unfold wpTree at h
    obtain ⟨o, ho, h⟩ := h
    have hks : k < z := of_decide_eq_true hkz
    obtain ⟨f', rfl⟩ : ∃ f', f = f' + 1 := ⟨f - 1, by simp only [Plan.depth] at hf; omega⟩
    have ih := fun a => (wpAnyM_tree hsel hcov p (listed.setIfInBounds k true) a w hw (hcl.set hr')).1 hB'
    have hfd : p.depth ≤ f' := by simp only [Plan.depth] at hf; omega
    split at h
    · rename_i hwd
      obtain ⟨v, hy, hk⟩ := h
      have hy' : Yields P (Dz ops C z k) o a v := by
        cases hm : mvB ops k with
        | false => exact hy.dz hks hm
        | true =>
          unfold mvB at hm
          simp only [ho] at hm
          split at hm
          · rename_i x hx; exact hy.move hx hw
          · cases hm
      exact mix_quiet_first ho (Region.noSelect_spec hsel) hE f' listed a w (fun _ => hw) (Region.free_spec ho hfr) hr' (.inl ⟨hwd, hy'⟩) (ih _ hk f' hfd)
    · rename_i hwd
      exact mix_quiet_first ho (Region.noSelect_spec hsel) hE f' listed a w (fun _ => hw) (Region.free_spec ho hfr) hr' (.inr ⟨by simpa using hwd, rfl⟩) (ih _ h f' hfd)
  | .e k p r, listed, a, w, hw, hcl => by
    have key : Region.treeB md ops E z true p (listed.setIfInBounds k true) = true → Region.treeB md ops E z false r listed = true → (∀ j ∈ (Plan.e k p r).heads, j ∈ Region.ready md ops listed ∧ E.contains j = true) → wpTree P ops C Q (.e k p r) a w → ∀ f, (Plan.e k p r).depth ≤ f + 1 → ∀ j ∈ (Plan.e k p r).heads, mixOp P ops (Dz ops C z) E (Cl C E z (listed.setIfInBounds j true)) j (fun a' w' => Cl C E z (listed.setIfInBounds j true) w' → wpAnyM P md ops C z E Q f (listed.setIfInBounds j true) a' w') a w := by
      intro hB1 hB2 hh h f hf j hj
      unfold wpTree at h
      obtain ⟨⟨o, ho, h1⟩, h2⟩ := h
      simp only [Plan.depth] at hf
      rcases List.mem_cons.1 hj with rfl | hj
      · obtain ⟨hr', hE⟩ := hh j (by simp [Plan.heads])
        have ih := fun a w hw => (wpAnyM_tree hsel hcov p (listed.setIfInBounds j true) a w hw (hcl.set hr')).1 hB1
        have hfd : p.depth ≤ f := by omega
        unfold mixOp
        simp only [ho, hE, if_true]
        split at h1
        · rename_i hwd; rw [if_pos hwd]; exact wp_noQ_mono (fun a' w' hk => ⟨fun _ => hk.1, fun _ => ih a' w' hk.1 hk.2 f hfd⟩) h1
        · rename_i hwd; rw [if_neg hwd]; exact fun _ => ih _ _ hw h1 f hfd
      · exact (wpAnyM_tree hsel hcov r listed a w hw hcl).2 hB2 (fun i hi => hh i (by simp [Plan.heads, hi])) h2 f (by omega) j hj
    refine ⟨fun hB h f hf => ?_, fun hB hh h f hf => ?_⟩
    · simp only [Region.treeB, Bool.and_eq_true] at hB
      obtain ⟨⟨hs, hB1⟩, hB2⟩ := hB
      obtain ⟨s1, s2⟩ := setOk_spec hs
      obtain ⟨f', rfl⟩ : ∃ f', f = f' + 1 := ⟨f - 1, by simp only [Plan.depth] at hf; omega⟩
      refine mix_set_first (k :: r.heads) (by simp) hcov (Region.noSelect_spec hsel) (fun p hp => ⟨(s1 p hp).2, ?_⟩) f' listed a w (fun _ => hw) hcl s2 (fun p hp => (s1 p hp).1) (key hB1 hB2 s1 h f' hf)
      obtain ⟨_, o, ho, _⟩ := mem_ready.1 (s1 p hp).1
      exact ⟨o, ho⟩
    · simp only [Region.treeB, Bool.and_eq_true] at hB
      exact key hB.1 hB.2 hh h f hf
  | .l k, listed, a, w, hw, hcl => by
    refine ⟨fun hB h f hf => ?_, fun hB => by simp [Region.treeB] at hB⟩
    simp only [Region.treeB, Bool.and_eq_true, beq_iff_eq, decide_eq_true_eq] at hB
    obtain ⟨⟨⟨hr, hE⟩, hkz⟩, hr2⟩ := hB
    have hr2' : Region.ready md ops (listed.setIfInBounds k true) = [] := by simpa using hr2
    unfold wpTree at h
    obtain ⟨o, ho, h⟩ := h
    obtain ⟨f', rfl⟩ : ∃ f', f = f' + 1 := ⟨f - 1, by simp only [Plan.depth] at hf; omega⟩
    have fin : ∀ a' w', Q a' w' → wpAnyM P md ops C z E Q f' (listed.setIfInBounds k true) a' w' := by
      intro a' w' hq
      cases f' with
      | zero => exact ⟨hr2', hq⟩
      | succ f => exact ⟨fun _ => hq, fun i hi => by rw [hr2'] at hi; cases hi⟩
    have hsz : k < listed.size := by
      have hmem : k ∈ Region.ready md ops listed := by rw [hr]; simp
      have hun := (mem_ready.1 hmem).1
      rcases Nat.lt_or_ge k listed.size with h1 | h1
      · exact h1
      · rw [Array.getD_eq_getD_getElem?, Array.getElem?_eq_none h1] at hun; simp at hun
    have vac : ∀ w', Cl C E z (listed.setIfInBounds k true) w' := by
      intro w' hc
      have h1 := hc k (by simpa using hE) hkz
      rw [Array.getD_eq_getD_getElem?, Array.getElem?_setIfInBounds] at h1
      simp [hsz] at h1
    refine ⟨fun h0 => (by rw [hr] at h0; cases h0), fun i hi => ?_⟩
    rw [hr] at hi
    obtain rfl : i = k := by simpa using hi
    unfold mixOp
    simp only [ho, hE, if_true]
    split at h
    · rename_i hwd; rw [if_pos hwd]; exact wp_noQ_mono (fun a' w' hk => ⟨vac w', fun _ => fin a' w' hk⟩) h
    · rename_i hwd; rw [if_neg hwd]; exact fun _ => fin _ _ h

theorem wp_region_treeZ {id : Nat} {Q' : Exit → Act → World → Prop} {a : Act} {w : World} {l : List Oper} (C : World → Prop) (E : List Nat) (z : Nat) (p : Plan) (hm : P.follows .mixedOrders = true)
    (hB : (Region.noSelect l.toArray && Region.covB .any l.toArray E z && Region.treeB .any l.toArray E z true p (Array.replicate l.toArray.size false) && decide (p.depth ≤ l.length)) = true) (hC : C w.drew)
    (h : wpTree P l.toArray C (fun a' w' => Q' .normal a' w') p a w.drew) : (Code.region id l.toArray true).wp P Q' a w := by
  simp only [Bool.and_eq_true, decide_eq_true_eq] at hB
  obtain ⟨⟨⟨hB1, hB2⟩, hB3⟩, hB4⟩ := hB
  have hcov := covB_spec hB2
  have h0 : ∀ j, (Array.replicate l.toArray.size false).getD j false = false := fun j => by
    rw [Array.getD_eq_getD_getElem?, Array.getElem?_replicate]; split <;> rfl
  have hcl : ClosedL .any l.toArray (Array.replicate l.toArray.size false) := fun j oj _ hl => by rw [h0] at hl; cases hl
  refine wp_region_any hm (wpAny_of_mix (E := E) (z := z) (C := C) (Q := fun a' w' => Q' .normal a' w') (fun _ _ h => h) hcov _ _ _ _ (fun _ => hC) hcl ?_)
  exact (wpAnyM_tree hB1 hcov p _ a w.drew hC hcl).1 hB3 h _ (by simpa using hB4)
theorem wp_region_tree {id : Nat} {Q' : Exit → Act → World → Prop} {a : Act} {w : World} {l : List Oper} (C : World → Prop) (E : List Nat) (p : Plan) (hm : P.follows .mixedOrders = true)
    (hB : (Region.noSelect l.toArray && Region.covB .any l.toArray E l.toArray.size && Region.treeB .any l.toArray E l.toArray.size true p (Array.replicate l.toArray.size false) && decide (p.depth ≤ l.length)) = true) (hC : C w.drew)
    (h : wpTree P l.toArray C (fun a' w' => Q' .normal a' w') p a w.drew) : (Code.region id l.toArray true).wp P Q' a w := wp_region_treeZ C E _ p hm hB hC h

theorem tree_q {k : Nat} {p : Plan} {a : Act} {w : World} {l r : List Oper} {o : Oper} (hk : l.drop k = o :: r) (hp : plainOp o.op = true) (h : wpQuiet P l.toArray C (fun a' => wpTree P l.toArray C Q p a' w) [o] a) : wpTree P l.toArray C Q (.q k p) a w := by
  have ho : l.toArray[k]? = some o := by
    have := congrArg (fun x => x[0]?) hk
    simpa using this
  unfold wpTree
  refine ⟨o, ho, ?_⟩
  simp only [wpQuiet] at h
  split
  · rename_i hw
    rw [if_pos hw] at h
    obtain ⟨v, hv, hn⟩ := h
    exact ⟨v, ⟨hp, hv⟩, hn⟩
  · rename_i hw
    rw [if_neg hw] at h
    exact h
def LastQ (Q : Act → World → Prop) : Exit → Act → World → Prop
  | .normal, a, w => Q a w
  | _, _, _ => False
def TreeQ (P : Program) (ops : Array Oper) (C : World → Prop) (Q : Act → World → Prop) (p : Plan) : Exit → Act → World → Prop
  | .normal, a, w => C w ∧ wpTree P ops C Q p a w
  | _, _, _ => False
theorem TreeQ.mk {p : Plan} {a : Act} {w : World} (h1 : C w) (h2 : wpTree P ops C Q p a w) : TreeQ P ops C Q p .normal a w := ⟨h1, h2⟩
theorem tree_e {k : Nat} {p r : Plan} {a : Act} {w : World} {l r' : List Oper} {o : Oper} (hk : l.drop k = o :: r') (h : wpList P l.toArray (TreeQ P l.toArray C Q p) [o] a w) (hr : wpTree P l.toArray C Q r a w) : wpTree P l.toArray C Q (.e k p r) a w := by
  have ho : l.toArray[k]? = some o := by
    have := congrArg (fun x => x[0]?) hk
    simpa using this
  unfold wpTree
  refine ⟨⟨o, ho, ?_⟩, hr⟩
  clear hr
  unfold wpList at h
  split
  · rename_i hw
    rw [if_pos hw] at h
    rcases h with h | ⟨_, _, _, h⟩
    · unfold Oper.wp at *
      generalize (execOp a.eval o).run P w = r at *
      cases r with
      | ok n w' =>
        cases n <;> simp only [Oper.upon, wpList] at h ⊢
        case value u => exact h
        case skip => exact h
        case defer d => exact h
        case enter f args =>
          refine h.mono fun e w'' he => ?_
          cases e with
          | returned v => exact he
          | panicked c => exact he.elim
          | outgrown => obtain ⟨_, _, hq⟩ := he; exact hq.elim
        case row r args => exact h
      | halt x w' => cases x <;> simp only [Oper.upon] at h ⊢; exact h.elim
    · exact h.elim
  · rename_i hw
    rw [if_neg hw] at h
    exact h.2
theorem LastQ.mk {a : Act} {w : World} (h : Q a w) : LastQ Q .normal a w := h
theorem tree_l {k : Nat} {a : Act} {w : World} {l r' : List Oper} {o : Oper} (hk : l.drop k = o :: r') (h : wpList P l.toArray (LastQ Q) [o] a w) : wpTree P l.toArray C Q (.l k) a w := by
  have ho : l.toArray[k]? = some o := by
    have := congrArg (fun x => x[0]?) hk
    simpa using this
  unfold wpTree
  refine ⟨o, ho, ?_⟩
  unfold wpList at h
  split
  · rename_i hw
    rw [if_pos hw] at h
    rcases h with h | ⟨_, _, _, h⟩
    · unfold Oper.wp at *
      generalize (execOp a.eval o).run P w = r at *
      cases r with
      | ok n w' =>
        cases n <;> simp only [Oper.upon, wpList] at h ⊢
        case value u => exact h
        case skip => exact h
        case defer d => exact h
        case enter f args =>
          refine h.mono fun e w'' he => ?_
          cases e with
          | returned v => exact he
          | panicked c => exact he.elim
          | outgrown => obtain ⟨_, _, hq⟩ := he; exact hq.elim
        case row r args => exact h
      | halt x w' => cases x <;> simp only [Oper.upon] at h ⊢; exact h.elim
    · exact h.elim
  · rename_i hw
    rw [if_neg hw] at h
    exact h
theorem tree_no {a : Act} {w : World} : wpTree P ops C Q .no a w := by unfold wpTree; trivial
theorem tree_e1 {k : Nat} {p : Plan} {a : Act} {w : World} {l r' : List Oper} {o : Oper} (hk : l.drop k = o :: r') (h : wpList P l.toArray (TreeQ P l.toArray C Q p) [o] a w) : wpTree P l.toArray C Q (.e k p .no) a w := tree_e hk h tree_no
theorem tree_done {a : Act} {w : World} (h : Q a w) : wpTree P ops C Q .done a w := by unfold wpTree; exact h
end
end M2
end
end Go.Proofs.YtnihngljmmbenaaGreatDoor
