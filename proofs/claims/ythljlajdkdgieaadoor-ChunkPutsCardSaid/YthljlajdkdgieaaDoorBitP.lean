/- Bits as lists of truths: bytes, numbers. Plain. -/
import Derived.Test.YthljlajdkdgieaaDoorLib
namespace Go.Proofs.YthljlajdkdgieaaDoor
set_option linter.unusedVariables false
set_option linter.unusedSimpArgs false

/-- Eight bits as a number, the first the highest. -/
def oct (f : Nat → Bool) : Nat := (f 0).toNat * 128 + (f 1).toNat * 64 + (f 2).toNat * 32 + (f 3).toNat * 16 + (f 4).toNat * 8 + (f 5).toNat * 4 + (f 6).toNat * 2 + (f 7).toNat

theorem toNat_le1 (b : Bool) : b.toNat ≤ 1 := by cases b <;> decide
theorem oct_lt (f : Nat → Bool) : oct f < 256 := by
  unfold oct
  have := toNat_le1 (f 0); have := toNat_le1 (f 1); have := toNat_le1 (f 2); have := toNat_le1 (f 3)
  have := toNat_le1 (f 4); have := toNat_le1 (f 5); have := toNat_le1 (f 6); have := toNat_le1 (f 7)
  omega

theorem testBit_big {x k : Nat} (hx : x < 256) (hk : 8 ≤ k) : x.testBit k = false :=
  Nat.testBit_lt_two_pow (Nat.lt_of_lt_of_le hx (by rw [show 256 = 2 ^ 8 by rfl]; exact Nat.pow_le_pow_right (by omega) hk))

theorem oct_table : ∀ b0 b1 b2 b3 b4 b5 b6 b7 : Bool, ∀ k : Fin 8, (b0.toNat * 128 + b1.toNat * 64 + b2.toNat * 32 + b3.toNat * 16 + b4.toNat * 8 + b5.toNat * 4 + b6.toNat * 2 + b7.toNat).testBit k.val = [b7, b6, b5, b4, b3, b2, b1, b0].getD k.val false := by
  decide +kernel

theorem oct_testBit (f : Nat → Bool) (k : Nat) : (oct f).testBit k = (decide (k < 8) && f (7 - k)) := by
  by_cases h : k < 8
  · rw [decide_eq_true h, Bool.true_and]
    have := oct_table (f 0) (f 1) (f 2) (f 3) (f 4) (f 5) (f 6) (f 7) ⟨k, h⟩
    unfold oct
    rw [this]
    match k, h with
    | 0, _ => rfl
    | 1, _ => rfl
    | 2, _ => rfl
    | 3, _ => rfl
    | 4, _ => rfl
    | 5, _ => rfl
    | 6, _ => rfl
    | 7, _ => rfl
  · rw [decide_eq_false h, Bool.false_and]
    exact testBit_big (oct_lt f) (by omega)

theorem oct_ext {f g : Nat → Bool} (h : ∀ j < 8, f j = g j) : oct f = oct g := by
  unfold oct
  rw [h 0 (by omega), h 1 (by omega), h 2 (by omega), h 3 (by omega), h 4 (by omega), h 5 (by omega), h 6 (by omega), h 7 (by omega)]

theorem byte_ext {x y : Nat} (hx : x < 256) (hy : y < 256) (h : ∀ k < 8, x.testBit k = y.testBit k) : x = y := by
  apply Nat.eq_of_testBit_eq
  intro k
  by_cases hk : k < 8
  · exact h k hk
  · rw [testBit_big hx (by omega), testBit_big hy (by omega)]

theorem oct_of {x : Nat} (hx : x < 256) : oct (fun j => x.testBit (7 - j)) = x := by
  apply byte_ext (oct_lt _) hx
  intro k hk
  rw [oct_testBit, decide_eq_true hk, Bool.true_and, show 7 - (7 - k) = k by omega]

/-! ### The bytes of bits -/

def nb (n : Nat) : Nat := (n + 7) / 8
def pack (l : List Bool) : List Nat := (List.range (nb l.length)).map fun q => oct fun j => l.getD (8 * q + j) false

theorem pack_length (l : List Bool) : (pack l).length = nb l.length := by simp [pack]
theorem pack_get {l : List Bool} {q : Nat} (h : q < (pack l).length) : (pack l)[q] = oct fun j => l.getD (8 * q + j) false := by simp [pack]
theorem pack_get? {l : List Bool} {q : Nat} (h : q < nb l.length) : (pack l)[q]? = some (oct fun j => l.getD (8 * q + j) false) := by
  rw [List.getElem?_eq_getElem (by rw [pack_length]; exact h), pack_get]
theorem pack_lt {l : List Bool} : ∀ b ∈ pack l, b < 256 := by
  intro b hb
  simp only [pack, List.mem_map] at hb
  obtain ⟨q, _, rfl⟩ := hb
  exact oct_lt _
theorem pack_nil : pack [] = [] := rfl

theorem getD_ge {l : List Bool} {i : Nat} (h : l.length ≤ i) : l.getD i false = false := by
  rw [List.getD_eq_getElem?_getD, List.getElem?_eq_none h]; rfl
theorem getD_app_left {l r : List Bool} {i : Nat} (h : i < l.length) : (l ++ r).getD i false = l.getD i false := by
  simp only [List.getD_eq_getElem?_getD]; rw [List.getElem?_append_left h]
theorem getD_app_right {l r : List Bool} {i : Nat} (h : l.length ≤ i) : (l ++ r).getD i false = r.getD (i - l.length) false := by
  simp only [List.getD_eq_getElem?_getD]; rw [List.getElem?_append_right h]
theorem getD_ext {a b : List Bool} (hl : a.length = b.length) (h : ∀ i < a.length, a.getD i false = b.getD i false) : a = b := by
  apply List.ext_getElem hl
  intro i h1 h2
  have := h i h1
  simpa [List.getD_eq_getElem?_getD, List.getElem?_eq_getElem, h1, h2] using this

theorem pack_inj {a b : List Bool} (hl : a.length = b.length) (h : pack a = pack b) : a = b := by
  refine getD_ext hl fun i hi => ?_
  have hq : i / 8 < nb a.length := by unfold nb; omega
  have e1 := pack_get? hq
  have e2 := pack_get? (l := b) (q := i / 8) (by rw [← hl]; exact hq)
  rw [h] at e1
  have e := Option.some.inj (e1.symm.trans e2)
  have t := congrArg (fun n => Nat.testBit n (7 - i % 8)) e
  simp only [oct_testBit, decide_eq_true (show 7 - i % 8 < 8 by omega), Bool.true_and] at t
  rw [show 8 * (i / 8) + (7 - (7 - i % 8)) = i by omega] at t
  exact t

/-! ### Soundness -/

def soundB (bs : List Nat) (N : Int) : Bool :=
  decide (0 ≤ N) && decide ((bs.length : Int) = (N + 7) / 8) && (decide (N % 8 = 0) || decide (bs.getLastD 0 % 2 ^ (8 - (N % 8).toNat) = 0))

theorem sound_list {bs : List Nat} {N : Int} (hb : ∀ b ∈ bs, b < 256) (h : soundB bs N = true) : ∃ l : List Bool, bs = pack l ∧ N = l.length := by
  simp only [soundB, Bool.and_eq_true, Bool.or_eq_true, decide_eq_true_eq] at h
  obtain ⟨⟨h0, h1⟩, h2⟩ := h
  obtain ⟨n, rfl⟩ : ∃ n : Nat, N = n := ⟨N.toNat, by omega⟩
  have hlen : bs.length = nb n := by unfold nb; omega
  refine ⟨(List.range n).map fun i => (bs.getD (i / 8) 0).testBit (7 - i % 8), ?_, by simp⟩
  apply List.ext_getElem
  · rw [pack_length]; simp [hlen]
  intro q h3 h4
  rw [pack_get]
  apply byte_ext (hb _ (List.getElem_mem h3)) (oct_lt _)
  intro k hk
  rw [oct_testBit, decide_eq_true hk, Bool.true_and]
  have hbs : bs.getD q 0 = bs[q] := by simp [List.getD_eq_getElem?_getD, List.getElem?_eq_getElem h3]
  by_cases hi : 8 * q + (7 - k) < n
  · rw [List.getD_eq_getElem?_getD, List.getElem?_eq_getElem (by simpa using hi)]
    simp only [List.getElem_map, List.getElem_range, Option.getD_some]
    rw [show (8 * q + (7 - k)) / 8 = q by omega, hbs, show 7 - (8 * q + (7 - k)) % 8 = k by omega]
  · rw [getD_ge (by simpa using Nat.le_of_not_lt hi)]
    have hq : q + 1 = bs.length := by unfold nb at hlen; omega
    rcases h2 with h2 | h2
    · exfalso; unfold nb at hlen; omega
    · have hl : bs.getLastD 0 = bs[q] := by
        rw [List.getLastD_eq_getLast?, List.getLast?_eq_getElem?, show bs.length - 1 = q by omega, List.getElem?_eq_getElem h3]; rfl
      rw [hl] at h2
      have hm : (((n : Int) % 8).toNat) = n % 8 := by omega
      rw [hm] at h2
      have hk2 : k < 8 - n % 8 := by unfold nb at hlen; omega
      have := Nat.testBit_mod_two_pow bs[q] (8 - n % 8) k
      rw [h2, decide_eq_true hk2, Bool.true_and, Nat.zero_testBit] at this
      exact this.symm

theorem sound_pack (l : List Bool) : soundB (pack l) l.length = true := by
  simp only [soundB, Bool.and_eq_true, Bool.or_eq_true, decide_eq_true_eq]
  refine ⟨⟨by omega, by rw [pack_length]; unfold nb; omega⟩, ?_⟩
  by_cases hz : (l.length : Int) % 8 = 0
  · exact .inl hz
  right
  have hq : nb l.length - 1 < (pack l).length := by rw [pack_length]; unfold nb; omega
  have hl : (pack l).getLastD 0 = (pack l)[nb l.length - 1] := by
    rw [List.getLastD_eq_getLast?, List.getLast?_eq_getElem?, pack_length, List.getElem?_eq_getElem hq]; rfl
  rw [hl, pack_get]
  apply Nat.eq_of_testBit_eq
  intro k
  rw [Nat.testBit_mod_two_pow, oct_testBit, Nat.zero_testBit]
  by_cases hk : k < 8 - ((l.length : Int) % 8).toNat
  · rw [getD_ge (by unfold nb; omega)]; simp
  · rw [decide_eq_false hk]; rfl

/-! ### Numbers -/

/-- The lowest bits of a number, the highest of them first. -/
def num (v w : Nat) : List Bool := (List.range w).map fun j => v.testBit (w - 1 - j)
def val (l : List Bool) : Nat := l.foldl (fun a b => 2 * a + b.toNat) 0

theorem num_length (v w : Nat) : (num v w).length = w := by simp [num]
theorem num_getD {v w i : Nat} (h : i < w) : (num v w).getD i false = v.testBit (w - 1 - i) := by
  simp [num, List.getD_eq_getElem?_getD, List.getElem?_map, List.getElem?_range h]
theorem num_zero (v : Nat) : num v 0 = [] := rfl

theorem num_split (v a b : Nat) : num v (a + b) = num (v >>> b) a ++ num v b := by
  refine getD_ext (by simp [num_length]) fun i hi => ?_
  rw [num_length] at hi
  rw [num_getD hi]
  by_cases h : i < a
  · rw [getD_app_left (by rw [num_length]; exact h), num_getD h, Nat.testBit_shiftRight]; congr 1; omega
  · rw [getD_app_right (by rw [num_length]; omega), num_length, num_getD (by omega)]; congr 1; omega

theorem val_foldl (l : List Bool) (a : Nat) : l.foldl (fun a b => 2 * a + b.toNat) a = a * 2 ^ l.length + val l := by
  induction l generalizing a with
  | nil => simp [val]
  | cons b l ih =>
    rw [val, List.foldl_cons, List.foldl_cons, ih, ih (2 * 0 + b.toNat), List.length_cons, Nat.pow_succ, Nat.add_mul]
    have : 2 * a * 2 ^ l.length = a * (2 ^ l.length * 2) := by rw [Nat.mul_comm 2 a, Nat.mul_assoc, Nat.mul_comm 2]
    simp only [Nat.mul_zero, Nat.zero_add] at *
    omega
theorem val_append (a b : List Bool) : val (a ++ b) = val a * 2 ^ b.length + val b := by
  rw [val, List.foldl_append, val_foldl]; rfl
theorem val_cons (b : Bool) (l : List Bool) : val (b :: l) = b.toNat * 2 ^ l.length + val l := by
  have := val_append [b] l
  simpa [val] using this
theorem val_nil : val [] = 0 := rfl
theorem val_one (b : Bool) : val [b] = b.toNat := by simp [val]
theorem val_lt (l : List Bool) : val l < 2 ^ l.length := by
  induction l with
  | nil => simp [val]
  | cons b l ih =>
    rw [val_cons, List.length_cons, Nat.pow_succ]
    have := toNat_le1 b
    have : b.toNat * 2 ^ l.length ≤ 2 ^ l.length := by
      have := Nat.mul_le_mul_right (2 ^ l.length) this
      omega
    omega

theorem val_num (v w : Nat) : val (num v w) = v % 2 ^ w := by
  induction w with
  | zero => simp [num, val, Nat.mod_one]
  | succ w ih =>
    have h1 : num v (1 + w) = num (v >>> w) 1 ++ num v w := num_split v 1 w
    rw [Nat.add_comm w 1, h1, val_append, ih, num_length]
    have h2 : num (v >>> w) 1 = [v.testBit w] := by simp [num, Nat.testBit_shiftRight]
    have h3 : (v.testBit w).toNat = v / 2 ^ w % 2 := by rw [Nat.testBit_eq_decide_div_mod_eq]; rcases Nat.mod_two_eq_zero_or_one (v / 2 ^ w) with h | h <;> rw [h] <;> rfl
    rw [h2, val_one, h3, Nat.add_comm 1 w, Nat.pow_succ, Nat.mod_mul, Nat.mul_comm (2 ^ w), Nat.add_comm]

theorem num_val (l : List Bool) : num (val l) l.length = l := by
  induction l with
  | nil => rfl
  | cons b l ih =>
    have h1 : num (val (b :: l)) (1 + l.length) = num (val (b :: l) >>> l.length) 1 ++ num (val (b :: l)) l.length := num_split _ 1 _
    rw [List.length_cons, Nat.add_comm l.length 1, h1, val_cons]
    have hv := val_lt l
    have e1 : (b.toNat * 2 ^ l.length + val l) >>> l.length = b.toNat := by
      rw [Nat.shiftRight_eq_div_pow, Nat.mul_comm, Nat.mul_add_div (Nat.two_pow_pos _), Nat.div_eq_of_lt hv, Nat.add_zero]
    have e2 : num (b.toNat * 2 ^ l.length + val l) l.length = num (val l) l.length := by
      unfold num
      apply List.map_congr_left
      intro j hj
      have hj := List.mem_range.1 hj
      rw [Nat.mul_comm, Nat.testBit_two_pow_mul_add _ hv, if_pos (by omega)]
    rw [e1, e2, ih]
    cases b <;> rfl

theorem num_mod (v w : Nat) : num (v % 2 ^ w) w = num v w := by
  have := num_val (num v w)
  rwa [val_num, num_length] at this
theorem num_inj {a b w : Nat} (ha : a < 2 ^ w) (hb : b < 2 ^ w) (h : num a w = num b w) : a = b := by
  have := congrArg val h
  rwa [val_num, val_num, Nat.mod_eq_of_lt ha, Nat.mod_eq_of_lt hb] at this
theorem val_inj {a b : List Bool} (hl : a.length = b.length) (h : val a = val b) : a = b := by
  rw [← num_val a, ← num_val b, h, hl]
end Go.Proofs.YthljlajdkdgieaaDoor
