/- Bits as lists: what is laid behind them. Plain. -/
import Derived.Test.YthljlajdkdgieaaDoorBitP
namespace Go.Proofs.YthljlajdkdgieaaDoor
set_option linter.unusedVariables false
set_option linter.unusedSimpArgs false

theorem bits_ext {bs : List Nat} {L : List Bool} (hl : bs.length = nb L.length) (hb : ∀ b ∈ bs, b < 256) (h : ∀ i (hi : i / 8 < bs.length), bs[i / 8].testBit (7 - i % 8) = L.getD i false) : bs = pack L := by
  apply List.ext_getElem
  · rw [pack_length, hl]
  intro q h1 h2
  rw [pack_get]
  apply byte_ext (hb _ (List.getElem_mem h1)) (oct_lt _)
  intro k hk
  rw [oct_testBit, decide_eq_true hk, Bool.true_and]
  have := h (8 * q + (7 - k)) (by omega)
  simp only [show (8 * q + (7 - k)) / 8 = q by omega, show 7 - (8 * q + (7 - k)) % 8 = k by omega] at this
  exact this

theorem pack_bit' {l : List Bool} {i : Nat} (h : i / 8 < (pack l).length) : (pack l)[i / 8].testBit (7 - i % 8) = l.getD i false := by
  rw [pack_get, oct_testBit, decide_eq_true (by omega), Bool.true_and, show 8 * (i / 8) + (7 - (7 - i % 8)) = i by omega]

/-- The n highest bits of a byte. -/
def hi (b n : Nat) : List Bool := (List.range n).map fun j => b.testBit (7 - j)
theorem hi_length (b n : Nat) : (hi b n).length = n := by simp [hi]
theorem hi_getD (b n i : Nat) : (hi b n).getD i false = (decide (i < n) && b.testBit (7 - i)) := by
  by_cases h : i < n
  · rw [decide_eq_true h, Bool.true_and, List.getD_eq_getElem?_getD]
    simp [hi, h]
  · rw [decide_eq_false h, Bool.false_and, getD_ge (by rw [hi_length]; omega)]
theorem hi_zero (b : Nat) : hi b 0 = [] := rfl

/-- What stands highest, the rest noughts. -/
def mask (b n : Nat) : Nat := b &&& (255 <<< (8 - n) % 256)
theorem mask_lt (b n : Nat) : mask b n < 256 := Nat.lt_of_le_of_lt Nat.and_le_right (Nat.mod_lt _ (by decide))
theorem mask_bit (b n k : Nat) (hn : n ≤ 8) : (mask b n).testBit k = (decide (k < 8) && decide (8 - n ≤ k) && b.testBit k) := by
  unfold mask
  rw [Nat.testBit_and, show 256 = 2 ^ 8 from rfl, Nat.testBit_mod_two_pow, Nat.testBit_shiftLeft, show 255 = 2 ^ 8 - 1 from rfl, Nat.testBit_two_pow_sub_one]
  by_cases h1 : k < 8 <;> by_cases h2 : 8 - n ≤ k <;> simp [h1, h2]
  intro _; omega
theorem mask_zero (b : Nat) : mask b 0 = 0 := by simp [mask]

theorem app_getD (l r : List Bool) (i : Nat) : (l ++ r).getD i false = if i < l.length then l.getD i false else r.getD (i - l.length) false := by
  split
  · rw [getD_app_left (by assumption)]
  · rw [getD_app_right (by omega)]

theorem lay_p0 {l : List Bool} {b n : Nat} (hk : l.length % 8 = 0) (h0 : 0 < n) (hn : n ≤ 8) : pack l ++ [mask b n] = pack (l ++ hi b n) := by
  have hpl : (pack l).length = l.length / 8 := by rw [pack_length]; unfold nb; omega
  apply bits_ext
  · rw [List.length_append, hpl, List.length_append, hi_length]; simp; unfold nb; omega
  · intro x hx
    rcases List.mem_append.1 hx with h | h
    · exact pack_lt x h
    · simp at h; subst h; exact mask_lt _ _
  · intro i hi'
    rw [List.length_append, hpl] at hi'
    simp at hi'
    rw [app_getD]
    by_cases h : i < l.length
    · rw [if_pos h, ← pack_bit' (by rw [hpl]; omega), List.getElem_append_left (by rw [hpl]; omega)]
    · rw [if_neg h, hi_getD, List.getElem_append_right (by rw [hpl]; omega)]
      simp only [List.getElem_singleton]
      rw [mask_bit _ _ _ hn, decide_eq_true (show 7 - i % 8 < 8 by omega), Bool.true_and, show 7 - (i - l.length) = 7 - i % 8 by omega]
      congr 1
      rw [decide_eq_decide]; omega

theorem or_lt {a b : Nat} (ha : a < 256) (hb : b < 256) : a ||| b < 256 := Nat.or_lt_two_pow (n := 8) ha hb
theorem shr_lt' {a k n : Nat} (h : a < n) : a >>> k < n := Nat.lt_of_le_of_lt (by rw [Nat.shiftRight_eq_div_pow]; exact Nat.div_le_self _ _) h

theorem lay_len {l : List Bool} (hk : l.length % 8 ≠ 0) : (pack l).length = l.length / 8 + 1 := by rw [pack_length]; unfold nb; omega
theorem lay_last {l : List Bool} (hk : l.length % 8 ≠ 0) : (pack l).length - 1 < (pack l).length := by rw [lay_len hk]; omega

theorem lay_lastbit {l : List Bool} {b n : Nat} (hk : l.length % 8 ≠ 0) (hn : n ≤ 8) (i : Nat) (hi' : i / 8 = l.length / 8) :
    ((pack l)[(pack l).length - 1]'(lay_last hk) ||| mask b n >>> (l.length % 8)).testBit (7 - i % 8) = (l ++ hi b n).getD i false := by
  have hpl := lay_len hk
  have e : (pack l)[(pack l).length - 1]'(lay_last hk) = (pack l)[i / 8]'(by omega) := by congr 1; omega
  rw [Nat.testBit_or, e, pack_bit' (by omega), Nat.testBit_shiftRight, mask_bit _ _ _ hn, app_getD]
  by_cases h : i < l.length
  · rw [if_pos h, decide_eq_false (show ¬ l.length % 8 + (7 - i % 8) < 8 by omega)]; simp
  · rw [if_neg h, getD_ge (by omega), Bool.false_or, decide_eq_true (show l.length % 8 + (7 - i % 8) < 8 by omega), Bool.true_and, hi_getD, show 7 - (i - l.length) = l.length % 8 + (7 - i % 8) by omega]
    congr 1
    rw [decide_eq_decide]; omega

theorem lay_p1 {l : List Bool} {b n : Nat} (hk : l.length % 8 ≠ 0) (hn : n ≤ 8) (h8 : n ≤ 8 - l.length % 8) :
    (pack l).set ((pack l).length - 1) ((pack l)[(pack l).length - 1]'(lay_last hk) ||| mask b n >>> (l.length % 8)) = pack (l ++ hi b n) := by
  have hpl := lay_len hk
  apply bits_ext
  · rw [List.length_set, hpl, List.length_append, hi_length]; unfold nb; omega
  · intro x hx
    rcases List.mem_or_eq_of_mem_set hx with h | h
    · exact pack_lt x h
    · subst h; exact or_lt (pack_lt _ (List.getElem_mem _)) (shr_lt' (mask_lt _ _))
  · intro i hi'
    rw [List.length_set] at hi'
    rw [List.getElem_set]
    split
    · exact lay_lastbit hk hn i (by omega)
    · rw [pack_bit' hi', app_getD, if_pos (by omega)]

theorem lay_p2 {l : List Bool} {b n : Nat} (hk : l.length % 8 ≠ 0) (hn : n ≤ 8) (h8 : 8 - l.length % 8 < n) :
    (pack l).set ((pack l).length - 1) ((pack l)[(pack l).length - 1]'(lay_last hk) ||| mask b n >>> (l.length % 8)) ++ [mask b n <<< (8 - l.length % 8) % 256] = pack (l ++ hi b n) := by
  have hpl := lay_len hk
  apply bits_ext
  · simp only [List.length_append, List.length_set, hpl, hi_length]; simp; unfold nb; omega
  · intro x hx
    rcases List.mem_append.1 hx with hx | hx
    · rcases List.mem_or_eq_of_mem_set hx with h | h
      · exact pack_lt x h
      · subst h; exact or_lt (pack_lt _ (List.getElem_mem _)) (shr_lt' (mask_lt _ _))
    · simp at hx; subst hx; omega
  · intro i hi'
    simp only [List.length_append, List.length_set, hpl] at hi'
    simp at hi'
    by_cases hq : i / 8 < (pack l).length
    · rw [List.getElem_append_left (by rw [List.length_set]; exact hq), List.getElem_set]
      split
      · exact lay_lastbit hk hn i (by omega)
      · rw [pack_bit' hq, app_getD, if_pos (by omega)]
    · rw [List.getElem_append_right (by rw [List.length_set]; omega)]
      simp only [List.getElem_singleton]
      rw [app_getD, if_neg (by omega), hi_getD, show 256 = 2 ^ 8 from rfl, Nat.testBit_mod_two_pow, decide_eq_true (show 7 - i % 8 < 8 by omega), Bool.true_and, Nat.testBit_shiftLeft, mask_bit _ _ _ hn]
      by_cases hc : 7 - i % 8 ≥ 8 - l.length % 8
      · rw [decide_eq_true hc, Bool.true_and, decide_eq_true (show 7 - i % 8 - (8 - l.length % 8) < 8 by omega), Bool.true_and, show 7 - (i - l.length) = 7 - i % 8 - (8 - l.length % 8) by omega]
        congr 1
        rw [decide_eq_decide]; omega
      · rw [decide_eq_false hc, Bool.false_and, decide_eq_false (show ¬ i - l.length < n by omega), Bool.false_and]

/-- A number's next bits, up to eight of them, highest in a byte. -/
theorem num_hi {v w n : Nat} (h0 : n ≤ w) (hn : n ≤ 8) : hi (v >>> (w - n) <<< (8 - n) % 256) n = (num v w).take n := by
  apply getD_ext (by simp [hi_length, num_length]; omega)
  intro i hi'
  rw [hi_length] at hi'
  rw [hi_getD, decide_eq_true hi', Bool.true_and, show 256 = 2 ^ 8 from rfl, Nat.testBit_mod_two_pow, decide_eq_true (by omega), Bool.true_and, Nat.testBit_shiftLeft, decide_eq_true (by omega), Bool.true_and, Nat.testBit_shiftRight]
  have : ((num v w).take n).getD i false = (num v w).getD i false := by
    simp only [List.getD_eq_getElem?_getD]; rw [List.getElem?_take, if_pos hi']
  rw [this, num_getD (by omega)]
  congr 1; omega
theorem num_drop {v w n : Nat} (h : n ≤ w) : (num v w).drop n = num v (w - n) := by
  have := num_split v n (w - n)
  rw [show n + (w - n) = w by omega] at this
  rw [this, List.drop_left' (by rw [num_length])]
theorem num_step {v w n : Nat} (h0 : n ≤ w) (hn : n ≤ 8) : hi (v >>> (w - n) <<< (8 - n) % 256) n ++ num v (w - n) = num v w := by
  rw [num_hi h0 hn, ← num_drop h0, List.take_append_drop]
/-- Eight bits at a place as the highest of a byte. -/
theorem oct_hi {l : List Bool} {i n : Nat} (h : i + n ≤ l.length) (hn : n ≤ 8) : hi (oct fun j => l.getD (i + j) false) n = (l.drop i).take n := by
  apply getD_ext (by simp [hi_length]; omega)
  intro k hk
  rw [hi_length] at hk
  rw [hi_getD, decide_eq_true hk, Bool.true_and, oct_testBit, decide_eq_true (by omega), Bool.true_and, show 7 - (7 - k) = k by omega]
  simp only [List.getD_eq_getElem?_getD]; rw [List.getElem?_take, if_pos hk, List.getElem?_drop]
theorem oct_shr {l : List Bool} {i n : Nat} (h : i + n ≤ l.length) (hn : n ≤ 8) : (oct fun j => l.getD (i + j) false) >>> (8 - n) = val ((l.drop i).take n) := by
  rw [← oct_hi h hn]
  have hv : val (hi (oct fun j => l.getD (i + j) false) n) < 2 ^ n := by have := val_lt (hi (oct fun j => l.getD (i + j) false) n); rwa [hi_length] at this
  have hs : (oct fun j => l.getD (i + j) false) >>> (8 - n) < 2 ^ n := by
    rw [Nat.shiftRight_eq_div_pow]
    apply Nat.div_lt_of_lt_mul
    rw [← Nat.pow_add, show 8 - n + n = 8 by omega]; exact oct_lt _
  apply num_inj hs hv
  have := num_val (hi (oct fun j => l.getD (i + j) false) n)
  rw [hi_length] at this
  rw [this]
  apply getD_ext (by simp [hi_length, num_length])
  intro k hk
  rw [num_length] at hk
  rw [num_getD hk, hi_getD, decide_eq_true hk, Bool.true_and, Nat.testBit_shiftRight]
  congr 1; omega
end Go.Proofs.YthljlajdkdgieaaDoor
