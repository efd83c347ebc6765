/- Values by how they differ: plain. -/
import Derived.Test.YthljlajdkdgieaaDoorBitQ
import Derived.Lib.TrailingZeros
import Derived.Lib.BitFns
namespace Go.Proofs.YthljlajdkdgieaaDoor
set_option linter.unusedVariables false
set_option linter.unusedSimpArgs false

abbrev M64 : Nat := 18446744073709551616
structure Vl where
  has : Bool
  prev : Nat
  lead : Nat
  width : Nat
  deriving DecidableEq, Inhabited
def Vl.wf (s : Vl) : Prop := s.prev < 18446744073709551616 ∧ s.lead < 256 ∧ s.width < 256
def Vl.zero : Vl := ⟨false, 0, 0, 0⟩

def soundV (s : Vl) : Bool :=
  if s.has then decide (s.lead ≤ 31) && decide (s.lead + s.width ≤ 64) && (decide (0 < s.width) || decide (s.lead = 0)) else decide (s.prev = 0) && decide (s.lead = 0) && decide (s.width = 0)

def lz (d : Nat) : Nat := 64 - Lib.bitLen d
def tz (d : Nat) : Nat := Lib.ctz 64 d

theorem bitLen_bits : ∀ (f d : Nat), d < 2 ^ f → d ≠ 0 → 0 < Lib.bitLenAux f d ∧ d.testBit (Lib.bitLenAux f d - 1) = true ∧ d < 2 ^ Lib.bitLenAux f d
  | 0, d, h, h0 => by simp at h; omega
  | f + 1, d, h, h0 => by
    simp only [Lib.bitLenAux, if_neg h0]
    by_cases h1 : d / 2 = 0
    · have hd : d = 1 := by omega
      subst hd
      have e : Lib.bitLenAux f (1 / 2) = 0 := by cases f <;> simp [Lib.bitLenAux]
      rw [e]; decide
    · obtain ⟨a, b, c⟩ := bitLen_bits f (d / 2) (by rw [Nat.pow_succ] at h; omega) h1
      refine ⟨by omega, ?_, ?_⟩
      · obtain ⟨k, hk⟩ : ∃ k, Lib.bitLenAux f (d / 2) = k + 1 := ⟨Lib.bitLenAux f (d / 2) - 1, by omega⟩
        rw [hk] at b ⊢
        rw [show 1 + (k + 1) - 1 = k + 1 by omega, Nat.testBit_succ]
        simpa using b
      · rw [Nat.add_comm 1, Nat.pow_succ]; omega

theorem lz_spec {d : Nat} (h : d < 18446744073709551616) (h0 : d ≠ 0) : lz d ≤ 63 ∧ d.testBit (63 - lz d) = true ∧ ∀ i < lz d, d.testBit (63 - i) = false := by
  obtain ⟨a, b, c⟩ := bitLen_bits 64 d h h0
  have hle := Lib.bitLen_le d 64 (Nat.le_refl _) h
  unfold lz
  change 0 < Lib.bitLen d at a
  change d.testBit (Lib.bitLen d - 1) = true at b
  change d < 2 ^ Lib.bitLen d at c
  refine ⟨by omega, by rw [show 63 - (64 - Lib.bitLen d) = Lib.bitLen d - 1 by omega]; exact b, fun i hi => ?_⟩
  exact Nat.testBit_lt_two_pow (Nat.lt_of_lt_of_le c (Nat.pow_le_pow_right (by omega) (by omega)))

theorem ctz_bits : ∀ (f d : Nat), 0 < d → d < 2 ^ f → Lib.ctzFrom f d < f ∧ d.testBit (Lib.ctzFrom f d) = true ∧ ∀ i < Lib.ctzFrom f d, d.testBit i = false
  | 0, d, h0, h => by simp at h; omega
  | f + 1, d, h0, h => by
    unfold Lib.ctzFrom
    split
    · rename_i h1
      exact ⟨by omega, by rw [Nat.testBit_zero]; simpa using h1, fun i hi => by omega⟩
    · rename_i h1
      obtain ⟨a, b, c⟩ := ctz_bits f (d / 2) (by omega) (by rw [Nat.pow_succ] at h; omega)
      refine ⟨by omega, by rw [Nat.add_comm 1, Nat.testBit_succ]; exact b, fun i hi => ?_⟩
      cases i with
      | zero => rw [Nat.testBit_zero]; simpa using h1
      | succ i => rw [Nat.testBit_succ]; exact c i (by omega)

theorem tz_spec {d : Nat} (h : d < 18446744073709551616) (h0 : d ≠ 0) : tz d ≤ 63 ∧ d.testBit (tz d) = true ∧ ∀ i < tz d, d.testBit i = false := by
  obtain ⟨a, b, c⟩ := ctz_bits 64 d (by omega) h
  unfold tz Lib.ctz
  rw [if_neg h0]
  exact ⟨by omega, b, c⟩

theorem lz_tz {d : Nat} (h : d < 18446744073709551616) (h0 : d ≠ 0) : lz d + tz d ≤ 63 := by
  obtain ⟨a1, a2, a3⟩ := lz_spec h h0
  obtain ⟨b1, b2, b3⟩ := tz_spec h h0
  apply Nat.le_of_not_lt
  intro hh
  have := b3 (63 - lz d) (by omega)
  rw [this] at a2; cases a2

/-- A band: so many noughts ahead, then so many bits. -/
def inBand (lead size d : Nat) : Bool := decide (0 < size) && decide (lead ≤ lz d) && decide (64 - lead - size ≤ tz d)
def aLead (d : Nat) : Nat := min (lz d) 31
def aSize (d : Nat) : Nat := 64 - aLead d - tz d

theorem around_le {d : Nat} (h : d < 18446744073709551616) (h0 : d ≠ 0) : aLead d ≤ 31 ∧ aLead d ≤ lz d ∧ 0 < aSize d ∧ aLead d + aSize d ≤ 64 ∧ aSize d ≤ 64 ∧ 64 - aLead d - aSize d = tz d ∧ aLead d + aSize d + tz d = 64 := by
  have := lz_tz h h0
  unfold aSize
  have : aLead d ≤ lz d := Nat.min_le_left _ _
  have : aLead d ≤ 31 := Nat.min_le_right _ _
  omega

/-- How a value is written, what is known then. -/
def written (s : Vl) (v : Nat) : List Bool × Vl :=
  if s.has then
    if v ^^^ s.prev = 0 then ([false], { s with prev := v })
    else if inBand s.lead s.width (v ^^^ s.prev) then ([true, false] ++ num ((v ^^^ s.prev) >>> (64 - s.lead - s.width)) s.width, { s with prev := v })
    else ([true, true] ++ num (aLead (v ^^^ s.prev)) 5 ++ num (aSize (v ^^^ s.prev) - 1) 6 ++ num ((v ^^^ s.prev) >>> tz (v ^^^ s.prev)) (aSize (v ^^^ s.prev)), ⟨true, v, aLead (v ^^^ s.prev), aSize (v ^^^ s.prev)⟩)
  else (num v 64, ⟨true, v, 0, 0⟩)

theorem soundV_has {s : Vl} (h : soundV s = true) (hh : s.has = true) : s.lead ≤ 31 ∧ s.lead + s.width ≤ 64 ∧ (0 < s.width ∨ s.lead = 0) := by
  unfold soundV at h
  rw [if_pos hh] at h
  simp only [Bool.and_eq_true, Bool.or_eq_true, decide_eq_true_eq] at h
  exact ⟨h.1.1, h.1.2, h.2⟩
theorem soundV_no {s : Vl} (h : soundV s = true) (hh : s.has = false) : s = Vl.zero := by
  unfold soundV at h
  rw [hh] at h
  simp only [Bool.false_eq_true, if_false, Bool.and_eq_true, decide_eq_true_eq] at h
  cases s
  simp only at h hh
  obtain ⟨⟨rfl, rfl⟩, rfl⟩ := h
  subst hh
  rfl

theorem written_sound {s : Vl} {v : Nat} (hs : soundV s = true) (hw : s.wf) (hv : v < 18446744073709551616) : soundV (written s v).2 = true ∧ (written s v).2.has = true ∧ (written s v).2.prev = v ∧ (written s v).2.wf := by
  unfold written
  cases hh : s.has
  · simp [soundV, Vl.wf, hv]
  · have h := soundV_has hs hh
    obtain ⟨w1, w2, w3⟩ := hw
    simp only [if_true]
    split
    · refine ⟨?_, rfl, rfl, ?_⟩
      · simp only [soundV, if_true, Bool.and_eq_true, Bool.or_eq_true, decide_eq_true_eq]; omega
      · simp only [Vl.wf]; omega
    · rename_i h0
      split
      · refine ⟨?_, rfl, rfl, ?_⟩
        · simp only [soundV, if_true, Bool.and_eq_true, Bool.or_eq_true, decide_eq_true_eq]; omega
        · simp only [Vl.wf]; omega
      · have hd : v ^^^ s.prev < 18446744073709551616 := Nat.xor_lt_two_pow (n := 64) hv w1
        have := around_le hd h0
        refine ⟨?_, rfl, rfl, ?_⟩
        · simp only [soundV, if_true, Bool.and_eq_true, Bool.or_eq_true, decide_eq_true_eq]; omega
        · simp only [Vl.wf]; omega

theorem written_len {s : Vl} {v : Nat} (hs : soundV s = true) (hw : s.wf) (hv : v < 18446744073709551616) : (written s v).1.length ≤ 77 ∧ 0 < (written s v).1.length := by
  unfold written
  cases hh : s.has
  · simp [num_length]
  · have h := soundV_has hs hh
    simp only [if_true]
    split
    · simp
    · rename_i h0
      split
      · simp [num_length]; omega
      · have hd : v ^^^ s.prev < 18446744073709551616 := Nat.xor_lt_two_pow (n := 64) hv hw.1
        have := around_le hd h0
        simp [num_length]; omega
theorem written_same {s : Vl} {v : Nat} (hs : soundV s = true) : written (written s v).2 v = ([false], (written s v).2) := by
  have h2 : (written s v).2.has = true ∧ (written s v).2.prev = v := by
    unfold written
    cases hh : s.has
    · simp
    · simp only [if_true]
      split
      · exact ⟨rfl, rfl⟩
      · split
        · exact ⟨rfl, rfl⟩
        · exact ⟨rfl, rfl⟩
  generalize (written s v).2 = t at h2
  obtain ⟨h, rfl⟩ := h2
  unfold written
  rw [if_pos h, Nat.xor_self, if_pos rfl]

/-! ### Reading -/

/-- The number of so many bits at a place. -/
def getN (l : List Bool) (at_ : Int) (width : Nat) : Nat × Nat :=
  if 0 ≤ at_ ∧ at_ + width ≤ l.length then (val ((l.drop at_.toNat).take width), 0) else (0, 10)

theorem getN_lt (l : List Bool) (at_ : Int) (width : Nat) : (getN l at_ width).1 < 2 ^ width := by
  unfold getN
  split
  · have := val_lt ((l.drop at_.toNat).take width)
    refine Nat.lt_of_lt_of_le this (Nat.pow_le_pow_right (by omega) ?_)
    simp; omega
  · exact Nat.two_pow_pos _
theorem getN_err (l : List Bool) (at_ : Int) (width : Nat) : (getN l at_ width).2 = 0 ∨ (getN l at_ width).2 = 10 := by
  unfold getN; split <;> simp
theorem getN_ok {l : List Bool} {at_ : Int} {width : Nat} (h : (getN l at_ width).2 = 0) : 0 ≤ at_ ∧ at_ + width ≤ l.length ∧ num (getN l at_ width).1 width = (l.drop at_.toNat).take width := by
  unfold getN at *
  split at h
  · rename_i hc
    refine ⟨hc.1, hc.2, ?_⟩
    rw [if_pos hc]
    have := num_val ((l.drop at_.toNat).take width)
    have e : ((l.drop at_.toNat).take width).length = width := by simp; omega
    rwa [e] at this
  · simp at h
theorem getN_bad {l : List Bool} {at_ : Int} {width : Nat} (h : ¬ (getN l at_ width).2 = 0) : getN l at_ width = (0, 10) := by
  unfold getN at *
  split at h
  · simp at h
  · rename_i hc; rw [if_neg hc]
theorem getN_num (a r : List Bool) {v width : Nat} (hv : v < 2 ^ width) : getN (a ++ (num v width ++ r)) a.length width = (v, 0) := by
  unfold getN
  rw [if_pos (by simp [num_length]; omega)]
  congr 1
  rw [Int.toNat_natCast, List.drop_left' rfl, List.take_left' (num_length _ _), val_num, Nat.mod_eq_of_lt hv]

/-- What a value at a place would be, how many bits it has; an error. -/
def valueX (l : List Bool) (at_ : Int) (s : Vl) : Nat × Nat × Nat :=
  if s.has then
    if (getN l at_ 1).2 ≠ 0 ∨ (getN l at_ 1).1 = 0 then (s.prev, 1, (getN l at_ 1).2)
    else if (getN l (at_ + 1) 1).2 ≠ 0 then (0, 0, (getN l (at_ + 1) 1).2)
    else if (getN l (at_ + 1) 1).1 = 0 then
      if (getN l (at_ + 2) s.width).2 ≠ 0 then (0, 0, (getN l (at_ + 2) s.width).2)
      else (s.prev ^^^ ((getN l (at_ + 2) s.width).1 <<< (64 - s.lead - s.width) % 18446744073709551616), 2 + s.width, 0)
    else if (getN l (at_ + 2) 5).2 ≠ 0 then (0, 0, (getN l (at_ + 2) 5).2)
    else if (getN l (at_ + 7) 6).2 ≠ 0 then (0, 0, (getN l (at_ + 7) 6).2)
    else if (getN l (at_ + 2) 5).1 + ((getN l (at_ + 7) 6).1 + 1) > 64 then (0, 0, 30)
    else if (getN l (at_ + 13) ((getN l (at_ + 7) 6).1 + 1)).2 ≠ 0 then (0, 0, (getN l (at_ + 13) ((getN l (at_ + 7) 6).1 + 1)).2)
    else (s.prev ^^^ ((getN l (at_ + 13) ((getN l (at_ + 7) 6).1 + 1)).1 <<< (64 - (getN l (at_ + 2) 5).1 - ((getN l (at_ + 7) 6).1 + 1)) % 18446744073709551616), 13 + ((getN l (at_ + 7) 6).1 + 1), 0)
  else ((getN l at_ 64).1, 64, (getN l at_ 64).2)

/-- The value at a place, the place behind it, what is known then; an error. -/
def getX (l : List Bool) (at_ : Int) (s : Vl) : Nat × Int × Vl × Nat :=
  if at_ < 0 ∨ l.length < at_ then (0, 0, Vl.zero, 10)
  else if (valueX l at_ s).2.2 ≠ 0 then (0, 0, Vl.zero, (valueX l at_ s).2.2)
  else if (written s (valueX l at_ s).1).1 = (l.drop at_.toNat).take (valueX l at_ s).2.1 then ((valueX l at_ s).1, at_ + (valueX l at_ s).2.1, (written s (valueX l at_ s).1).2, 0)
  else (0, 0, Vl.zero, 30)

theorem shl_shr {d k : Nat} (hd : d < 18446744073709551616) (h : ∀ i < k, d.testBit i = false) : (d >>> k) <<< k % 18446744073709551616 = d := by
  rw [Nat.mod_eq_of_lt (Nat.lt_of_le_of_lt (by rw [Nat.shiftRight_eq_div_pow, Nat.shiftLeft_eq]; exact Nat.div_mul_le_self _ _) hd)]
  apply Nat.eq_of_testBit_eq
  intro i
  rw [Nat.testBit_shiftLeft, Nat.testBit_shiftRight]
  by_cases hi : i ≥ k
  · rw [decide_eq_true hi, Bool.true_and, show k + (i - k) = i by omega]
  · rw [decide_eq_false hi, Bool.false_and, h i (by omega)]
theorem shr_lt_pow {d k n : Nat} (hd : d < 18446744073709551616) (h : ∀ i < 64 - k - n, d.testBit (63 - i) = false) (hkn : k + n ≤ 64) : d >>> k < 2 ^ n := by
  apply Nat.lt_pow_two_of_testBit
  intro i hi
  rw [Nat.testBit_shiftRight]
  by_cases h64 : k + i < 64
  · have := h (63 - (k + i)) (by omega)
    rwa [show 63 - (63 - (k + i)) = k + i by omega] at this
  · exact Nat.testBit_lt_two_pow (Nat.lt_of_lt_of_le hd (by rw [show 18446744073709551616 = 2 ^ 64 from rfl]; exact Nat.pow_le_pow_right (by omega) (by omega)))

theorem xor_back (v p : Nat) : p ^^^ (v ^^^ p) = v := by
  rw [Nat.xor_comm v p, ← Nat.xor_assoc, Nat.xor_self, Nat.zero_xor]

theorem inBand_spec {lead size d : Nat} (hd : d < 18446744073709551616) (h0 : d ≠ 0) (hb : inBand lead size d = true) (hl : lead + size ≤ 64) :
    d >>> (64 - lead - size) < 2 ^ size ∧ (d >>> (64 - lead - size)) <<< (64 - lead - size) % 18446744073709551616 = d := by
  simp only [inBand, Bool.and_eq_true, decide_eq_true_eq] at hb
  obtain ⟨⟨h1, h2⟩, h3⟩ := hb
  have a := lz_spec hd h0
  have b := tz_spec hd h0
  exact ⟨shr_lt_pow hd (fun i hi => a.2.2 i (by omega)) (by omega), shl_shr hd (fun i hi => b.2.2 i (by omega))⟩

/-- What is written is what a value at that place is. -/
theorem value_written (a r : List Bool) {s : Vl} {v : Nat} (hs : soundV s = true) (hw : s.wf) (hv : v < 18446744073709551616) :
    valueX (a ++ ((written s v).1 ++ r)) a.length s = (v, (written s v).1.length, 0) := by
  unfold valueX
  cases hh : s.has
  · simp only [written, hh, Bool.false_eq_true, if_false]
    rw [getN_num a r (by exact hv)]
    simp [num_length]
  · have h := soundV_has hs hh
    obtain ⟨w1, w2, w3⟩ := hw
    have hd : v ^^^ s.prev < 18446744073709551616 := Nat.xor_lt_two_pow (n := 64) hv w1
    simp only [if_true]
    by_cases h0 : v ^^^ s.prev = 0
    · have e : written s v = ([false], { s with prev := v }) := by unfold written; rw [if_pos hh, if_pos h0]
      have g : getN (a ++ ([false] ++ r)) a.length 1 = (0, 0) := getN_num a r (v := 0) (width := 1) (by decide)
      have hp : s.prev = v := by
        have := xor_back v s.prev
        rw [h0, Nat.xor_zero] at this; exact this
      rw [e]
      simp only [g, hp]
      simp
    · by_cases hb : inBand s.lead s.width (v ^^^ s.prev) = true
      · have e : written s v = ([true, false] ++ num ((v ^^^ s.prev) >>> (64 - s.lead - s.width)) s.width, { s with prev := v }) := by unfold written; rw [if_pos hh, if_neg h0, if_pos hb]
        obtain ⟨b1, b2⟩ := inBand_spec hd h0 hb h.2.1
        rw [e]
        have g1 : getN (a ++ (([true, false] ++ num ((v ^^^ s.prev) >>> (64 - s.lead - s.width)) s.width) ++ r)) a.length 1 = (1, 0) := getN_num a ([false] ++ num ((v ^^^ s.prev) >>> (64 - s.lead - s.width)) s.width ++ r) (v := 1) (width := 1) (by decide)
        have g2 : getN (a ++ (([true, false] ++ num ((v ^^^ s.prev) >>> (64 - s.lead - s.width)) s.width) ++ r)) (a.length + 1) 1 = (0, 0) := by
          have := getN_num (a ++ [true]) (num ((v ^^^ s.prev) >>> (64 - s.lead - s.width)) s.width ++ r) (v := 0) (width := 1) (by decide)
          simpa [num] using this
        have g3 : getN (a ++ (([true, false] ++ num ((v ^^^ s.prev) >>> (64 - s.lead - s.width)) s.width) ++ r)) (a.length + 2) s.width = ((v ^^^ s.prev) >>> (64 - s.lead - s.width), 0) := by
          have := getN_num (a ++ [true, false]) r b1
          simpa using this
        rw [g1, g2, g3]
        simp only [b2, xor_back]
        simp [num_length]; omega
      · have e : written s v = ([true, true] ++ num (aLead (v ^^^ s.prev)) 5 ++ num (aSize (v ^^^ s.prev) - 1) 6 ++ num ((v ^^^ s.prev) >>> tz (v ^^^ s.prev)) (aSize (v ^^^ s.prev)), ⟨true, v, aLead (v ^^^ s.prev), aSize (v ^^^ s.prev)⟩) := by
          unfold written; rw [if_pos hh, if_neg h0, if_neg hb]
        have hA := around_le hd h0
        have hla := lz_spec hd h0
        have hta := tz_spec hd h0
        rw [e]
        generalize hdd : v ^^^ s.prev = d at *
        have hx : s.prev ^^^ d = v := by rw [← hdd]; exact xor_back v s.prev
        have b1 : d >>> tz d < 2 ^ aSize d := shr_lt_pow hd (fun i hi => hla.2.2 i (by omega)) (by omega)
        have b2 : (d >>> tz d) <<< tz d % 18446744073709551616 = d := shl_shr hd hta.2.2
        generalize hL : aLead d = L at *
        generalize hS : aSize d = S at *
        have g1 : getN (a ++ (([true, true] ++ num L 5 ++ num (S - 1) 6 ++ num (d >>> tz d) S) ++ r)) a.length 1 = (1, 0) := by
          have := getN_num a ([true] ++ num L 5 ++ num (S - 1) 6 ++ num (d >>> tz d) S ++ r) (v := 1) (width := 1) (by decide)
          simpa [num] using this
        have g2 : getN (a ++ (([true, true] ++ num L 5 ++ num (S - 1) 6 ++ num (d >>> tz d) S) ++ r)) (a.length + 1) 1 = (1, 0) := by
          have := getN_num (a ++ [true]) (num L 5 ++ num (S - 1) 6 ++ num (d >>> tz d) S ++ r) (v := 1) (width := 1) (by decide)
          simpa [num] using this
        have g3 : getN (a ++ (([true, true] ++ num L 5 ++ num (S - 1) 6 ++ num (d >>> tz d) S) ++ r)) (a.length + 2) 5 = (L, 0) := by
          have := getN_num (a ++ [true, true]) (num (S - 1) 6 ++ num (d >>> tz d) S ++ r) (v := L) (width := 5) (by omega)
          simpa using this
        have g4 : getN (a ++ (([true, true] ++ num L 5 ++ num (S - 1) 6 ++ num (d >>> tz d) S) ++ r)) (a.length + 7) 6 = (S - 1, 0) := by
          have := getN_num (a ++ [true, true] ++ num L 5) (num (d >>> tz d) S ++ r) (v := S - 1) (width := 6) (by omega)
          simpa [num_length, Int.add_assoc] using this
        have g5 : getN (a ++ (([true, true] ++ num L 5 ++ num (S - 1) 6 ++ num (d >>> tz d) S) ++ r)) (a.length + 13) S = (d >>> tz d, 0) := by
          have := getN_num (a ++ [true, true] ++ num L 5 ++ num (S - 1) 6) r b1
          simpa [num_length, Int.add_assoc] using this
        rw [g1, g2, g3, g4]
        simp only [show S - 1 + 1 = S by omega, g5, show 64 - L - S = tz d by omega, b2, hx]
        rw [if_neg (by simp), if_neg (by simp), if_neg (by simp), if_neg (by simp), if_neg (by simp), if_neg (by omega), if_neg (by simp)]
        simp [num_length]; omega

theorem getX_written (a r : List Bool) {s : Vl} {v : Nat} (hs : soundV s = true) (hw : s.wf) (hv : v < 18446744073709551616) :
    getX (a ++ ((written s v).1 ++ r)) a.length s = (v, ((a.length + (written s v).1.length : Nat) : Int), (written s v).2, 0) := by
  unfold getX
  rw [if_neg (by simp; omega), value_written a r hs hw hv]
  simp only [ne_eq, not_true, if_false]
  rw [if_pos (by rw [Int.toNat_natCast, List.drop_left' rfl, List.take_left' rfl])]
  simp

theorem value_len {l : List Bool} {at_ : Int} {s : Vl} (h : (valueX l at_ s).2.2 = 0) : at_ + (valueX l at_ s).2.1 ≤ l.length := by
  unfold valueX at *
  cases hh : s.has
  · simp only [hh, Bool.false_eq_true, if_false] at h ⊢
    exact (getN_ok h).2.1
  · simp only [hh, if_true] at h ⊢
    by_cases c1 : (getN l at_ 1).2 ≠ 0 ∨ (getN l at_ 1).1 = 0
    · simp only [if_pos c1] at h ⊢
      exact (getN_ok h).2.1
    · simp only [if_neg c1] at h ⊢
      by_cases c2 : (getN l (at_ + 1) 1).2 ≠ 0
      · rw [if_pos c2] at h; exact absurd h c2
      · simp only [if_neg c2] at h ⊢
        by_cases c3 : (getN l (at_ + 1) 1).1 = 0
        · simp only [if_pos c3] at h ⊢
          by_cases c4 : (getN l (at_ + 2) s.width).2 ≠ 0
          · rw [if_pos c4] at h; exact absurd h c4
          · simp only [if_neg c4]
            have := (getN_ok (by simpa using c4)).2.1
            omega
        · simp only [if_neg c3] at h ⊢
          by_cases c4 : (getN l (at_ + 2) 5).2 ≠ 0
          · rw [if_pos c4] at h; exact absurd h c4
          · simp only [if_neg c4] at h ⊢
            by_cases c5 : (getN l (at_ + 7) 6).2 ≠ 0
            · rw [if_pos c5] at h; exact absurd h c5
            · simp only [if_neg c5] at h ⊢
              by_cases c6 : (getN l (at_ + 2) 5).1 + ((getN l (at_ + 7) 6).1 + 1) > 64
              · simp [if_pos c6] at h
              · simp only [if_neg c6] at h ⊢
                by_cases c7 : (getN l (at_ + 13) ((getN l (at_ + 7) 6).1 + 1)).2 ≠ 0
                · rw [if_pos c7] at h; exact absurd h c7
                · simp only [if_neg c7]
                  have := (getN_ok (by simpa using c7)).2.1
                  omega

theorem getX_ok {l : List Bool} {at_ : Int} {s t : Vl} {v : Nat} {n : Int} (h : getX l at_ s = (v, n, t, 0)) : 0 ≤ at_ ∧ at_ ≤ n ∧ n ≤ l.length ∧ (written s v).2 = t ∧ (written s v).1 = (l.drop at_.toNat).take (n.toNat - at_.toNat) := by
  unfold getX at h
  split at h
  · simp at h
  · rename_i h1
    split at h
    · rename_i h2; simp only [Prod.mk.injEq] at h; exact absurd h.2.2.2 h2
    · rename_i h2
      split at h
      · rename_i h3
        simp only [Prod.mk.injEq, and_true] at h
        obtain ⟨rfl, rfl, rfl⟩ := h
        have hle := value_len (by simpa using h2)
        refine ⟨by omega, by omega, by omega, rfl, ?_⟩
        rw [h3]; congr 1; omega
      · simp at h
end Go.Proofs.YthljlajdkdgieaaDoor
