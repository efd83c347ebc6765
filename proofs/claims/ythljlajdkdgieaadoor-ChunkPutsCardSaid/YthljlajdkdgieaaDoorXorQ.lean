/- What a reader of values finds, case by case. Plain. -/
import Derived.Test.YthljlajdkdgieaaDoorXorP
namespace Go.Proofs.YthljlajdkdgieaaDoor
set_option linter.unusedVariables false
set_option linter.unusedSimpArgs false

theorem take_two {l : List Bool} {i a b : Nat} : (l.drop i).take (a + b) = (l.drop i).take a ++ (l.drop (i + a)).take b := by
  rw [List.take_add, List.drop_drop]
theorem num_bit1 {b : Nat} (h : b < 2) : num b 1 = [decide (b = 1)] := by
  have : b = 0 ∨ b = 1 := by omega
  rcases this with rfl | rfl <;> rfl
theorem getN_in {l : List Bool} {at_ : Int} {w : Nat} (h : (getN l at_ w).2 = 0) : ∃ i : Nat, at_ = i ∧ i + w ≤ l.length ∧ (l.drop i).take w = num (getN l i w).1 w := by
  obtain ⟨h1, h2, h3⟩ := getN_ok h
  obtain ⟨i, rfl⟩ : ∃ i : Nat, at_ = i := ⟨at_.toNat, by omega⟩
  exact ⟨i, rfl, by omega, by rw [h3, Int.toNat_natCast]⟩

theorem getX_far {l : List Bool} {at_ : Int} {s : Vl} (h : at_ < 0 ∨ l.length < at_) : getX l at_ s = (0, 0, Vl.zero, 10) := by
  unfold getX; rw [if_pos h]
theorem getX_err {l : List Bool} {at_ : Int} {s : Vl} {e : Nat} (h : (valueX l at_ s).2.2 = e) (he : e ≠ 0) (h1 : ¬ (at_ < 0 ∨ l.length < at_)) : getX l at_ s = (0, 0, Vl.zero, e) := by
  unfold getX; rw [if_neg h1, if_pos (by rw [h]; exact he), h]
theorem getX_val {l : List Bool} {i n : Nat} {s : Vl} {v : Nat} (h : valueX l i s = (v, n, 0)) (hi : i ≤ l.length) :
    getX l i s = if (written s v).1 = (l.drop i).take n then (v, ((i + n : Nat) : Int), (written s v).2, 0) else (0, 0, Vl.zero, 30) := by
  unfold getX
  rw [if_neg (by omega), h]
  simp only [ne_eq, not_true, if_false, Int.toNat_natCast, Int.natCast_add]

/-- Nothing is known yet. -/
theorem getX_new {l : List Bool} {at_ : Int} {s : Vl} (hh : s.has = false) : getX l at_ s = if (getN l at_ 64).2 = 0 then ((getN l at_ 64).1, at_ + 64, ⟨true, (getN l at_ 64).1, 0, 0⟩, 0) else (0, 0, Vl.zero, 10) := by
  have hv : valueX l at_ s = ((getN l at_ 64).1, 64, (getN l at_ 64).2) := by unfold valueX; simp [hh]
  split
  · rename_i h0
    obtain ⟨i, rfl, hi, hb⟩ := getN_in h0
    rw [h0] at hv
    rw [getX_val hv (by omega), if_pos (by rw [hb]; simp [written, hh])]
    simp [written, hh]
  · rename_i h0
    by_cases h1 : at_ < 0 ∨ l.length < at_
    · exact getX_far h1
    · exact getX_err (by rw [hv]; rcases getN_err l at_ 64 with h | h; exact absurd h h0; exact h) (by decide) h1

section
variable {l : List Bool} {at_ : Int} {s : Vl}
theorem getN_zero_w (h : ¬ (at_ < 0 ∨ l.length < at_)) : (getN l at_ 0).2 = 0 := by unfold getN; rw [if_pos (by omega)]

theorem getX_A (hh : s.has = true) (h : (getN l at_ 1).2 ≠ 0) : getX l at_ s = (0, 0, Vl.zero, 10) := by
  by_cases h1 : at_ < 0 ∨ l.length < at_
  · exact getX_far h1
  · have e : (getN l at_ 1).2 = 10 := by rcases getN_err l at_ 1 with h' | h'; exact absurd h' h; exact h'
    exact getX_err (by unfold valueX; rw [if_pos hh, if_pos (.inl h)]; exact e) (by decide) h1

theorem getX_B (hh : s.has = true) (h : getN l at_ 1 = (0, 0)) : getX l at_ s = (s.prev, at_ + 1, s, 0) := by
  obtain ⟨i, rfl, hi, hb⟩ := getN_in (w := 1) (at_ := at_) (l := l) (by rw [h])
  have hv : valueX l i s = (s.prev, 1, 0) := by unfold valueX; rw [if_pos hh, if_pos (.inr (by rw [h])), h]
  have e : written s s.prev = ([false], s) := by unfold written; rw [if_pos hh, Nat.xor_self, if_pos rfl]
  rw [getX_val hv (by omega), e, if_pos (by rw [hb, h]; rfl)]
  simp

theorem getX_in (h : getN l at_ 1 = (1, 0)) : ∃ i : Nat, at_ = i ∧ i + 1 ≤ l.length ∧ (l.drop i).take 1 = [true] := by
  obtain ⟨i, rfl, hi, hb⟩ := getN_in (w := 1) (at_ := at_) (l := l) (by rw [h])
  exact ⟨i, rfl, hi, by rw [hb, h]; rfl⟩

theorem getX_C1 (hh : s.has = true) (h : getN l at_ 1 = (1, 0)) (h1 : (getN l (at_ + 1) 1).2 ≠ 0) : getX l at_ s = (0, 0, Vl.zero, 10) := by
  obtain ⟨i, rfl, hi, _⟩ := getX_in h
  have e : (getN l ((i : Int) + 1) 1).2 = 10 := by rcases getN_err l ((i : Int) + 1) 1 with h' | h'; exact absurd h' h1; exact h'
  exact getX_err (by unfold valueX; rw [if_pos hh, if_neg (by rw [h]; simp), if_pos h1]; exact e) (by decide) (by omega)

theorem getX_C2a (hh : s.has = true) (h : getN l at_ 1 = (1, 0)) (h1 : getN l (at_ + 1) 1 = (0, 0)) (h2 : (getN l (at_ + 2) s.width).2 ≠ 0) : getX l at_ s = (0, 0, Vl.zero, 10) := by
  obtain ⟨i, rfl, hi, _⟩ := getX_in h
  have e : (getN l ((i : Int) + 2) s.width).2 = 10 := by rcases getN_err l ((i : Int) + 2) s.width with h' | h'; exact absurd h' h2; exact h'
  exact getX_err (by unfold valueX; rw [if_pos hh, if_neg (by rw [h]; simp), if_neg (by rw [h1]; simp), if_pos (by rw [h1]), if_pos h2]; exact e) (by decide) (by omega)

theorem two_bits {l : List Bool} {i : Nat} {b1 b2 : Nat} (h : getN l i 1 = (b1, 0)) (h1 : getN l ((i : Int) + 1) 1 = (b2, 0)) (n : Nat) : (l.drop i).take (2 + n) = num b1 1 ++ num b2 1 ++ (l.drop (i + 2)).take n := by
  obtain ⟨j, hj, _, hb⟩ := getN_in (w := 1) (at_ := (i : Int)) (l := l) (by rw [h])
  obtain ⟨k, hk, _, hb2⟩ := getN_in (w := 1) (at_ := (i : Int) + 1) (l := l) (by rw [h1])
  obtain rfl : i = j := by omega
  obtain rfl : k = i + 1 := by omega
  rw [← hk] at hb2
  rw [take_two, show (2 : Nat) = 1 + 1 from rfl, take_two, hb, hb2, h, h1]

theorem shl_testBit {d0 k i : Nat} : (d0 <<< k % 18446744073709551616).testBit i = (decide (i < 64) && (decide (k ≤ i) && d0.testBit (i - k))) := by
  rw [show 18446744073709551616 = 2 ^ 64 from rfl, Nat.testBit_mod_two_pow, Nat.testBit_shiftLeft]
theorem shl_lt64 (d0 k : Nat) : d0 <<< k % 18446744073709551616 < 18446744073709551616 := Nat.mod_lt _ (by decide)
theorem shl_shr' {d0 k w : Nat} (h : d0 < 2 ^ w) (hk : k + w ≤ 64) : (d0 <<< k % 18446744073709551616) >>> k = d0 := by
  rw [Nat.mod_eq_of_lt, Nat.shiftLeft_shiftRight]
  rw [Nat.shiftLeft_eq]
  calc d0 * 2 ^ k < 2 ^ w * 2 ^ k := Nat.mul_lt_mul_of_pos_right h (Nat.two_pow_pos k)
    _ = 2 ^ (w + k) := (Nat.pow_add 2 w k).symm
    _ ≤ 2 ^ 64 := Nat.pow_le_pow_right (by omega) (by omega)
    _ = 18446744073709551616 := rfl
theorem band_of_shl {d0 lead w : Nat} (h : d0 < 2 ^ w) (hk : lead + w ≤ 64) (h0 : d0 <<< (64 - lead - w) % 18446744073709551616 ≠ 0) : inBand lead w (d0 <<< (64 - lead - w) % 18446744073709551616) = true := by
  have hd := shl_lt64 d0 (64 - lead - w)
  generalize hdd : d0 <<< (64 - lead - w) % 18446744073709551616 = d at *
  have a := lz_spec hd h0
  have b := tz_spec hd h0
  have hw : 0 < w := by
    rcases Nat.eq_zero_or_pos w with rfl | h'
    · have : d0 = 0 := by simpa using h
      subst this
      simp at hdd; omega
    · exact h'
  simp only [inBand, Bool.and_eq_true, decide_eq_true_eq]
  refine ⟨⟨hw, ?_⟩, ?_⟩
  · apply Nat.le_of_not_lt
    intro hlt
    have := a.2.1
    rw [← hdd, shl_testBit] at this
    simp only [Bool.and_eq_true, decide_eq_true_eq] at this
    rw [hdd] at this
    have hb := this.2.2
    rw [Nat.testBit_lt_two_pow (Nat.lt_of_lt_of_le h (Nat.pow_le_pow_right (by omega) (by omega)))] at hb
    cases hb
  · have := b.2.1
    rw [← hdd, shl_testBit] at this
    simp only [Bool.and_eq_true, decide_eq_true_eq] at this
    rw [hdd] at this
    exact this.2.1

theorem getX_C2b (hs : soundV s = true) (hh : s.has = true) (h : getN l at_ 1 = (1, 0)) (h1 : getN l (at_ + 1) 1 = (0, 0)) {d0 : Nat} (h2 : getN l (at_ + 2) s.width = (d0, 0)) :
    getX l at_ s = if d0 <<< (64 - s.lead - s.width) % 18446744073709551616 = 0 then (0, 0, Vl.zero, 30) else (s.prev ^^^ (d0 <<< (64 - s.lead - s.width) % 18446744073709551616), at_ + 2 + s.width, { s with prev := s.prev ^^^ (d0 <<< (64 - s.lead - s.width) % 18446744073709551616) }, 0) := by
  obtain ⟨i, rfl, hi, _⟩ := getX_in h
  obtain ⟨k, hk, hk2, hb⟩ := getN_in (w := s.width) (at_ := (i : Int) + 2) (l := l) (by rw [h2])
  obtain rfl : k = i + 2 := by omega
  rw [← hk, h2] at hb
  have hlt : d0 < 2 ^ s.width := by have := getN_lt l ((i : Int) + 2) s.width; rwa [h2] at this
  have hb2 := two_bits h h1 s.width
  rw [hb] at hb2
  have hsd := soundV_has hs hh
  have hv : valueX l i s = (s.prev ^^^ (d0 <<< (64 - s.lead - s.width) % 18446744073709551616), 2 + s.width, 0) := by
    unfold valueX; rw [if_pos hh, if_neg (by rw [h]; simp), if_neg (by rw [h1]; simp), if_pos (by rw [h1]), if_neg (by rw [h2]; simp), h2]
  rw [getX_val hv (by omega), hb2]
  have hx : ∀ d, (s.prev ^^^ d) ^^^ s.prev = d := fun d => by rw [Nat.xor_comm s.prev d, Nat.xor_assoc, Nat.xor_self, Nat.xor_zero]
  by_cases h0 : d0 <<< (64 - s.lead - s.width) % 18446744073709551616 = 0
  · have hw : written s (s.prev ^^^ (d0 <<< (64 - s.lead - s.width) % 18446744073709551616)) = ([false], { s with prev := s.prev ^^^ (d0 <<< (64 - s.lead - s.width) % 18446744073709551616) }) := by
      unfold written; rw [if_pos hh, hx, if_pos h0]
    rw [hw, if_pos h0, if_neg (by intro hc; have := congrArg List.length hc; simp [num_length] at this)]
  · have e := band_of_shl hlt hsd.2.1 h0
    have hw : written s (s.prev ^^^ (d0 <<< (64 - s.lead - s.width) % 18446744073709551616)) = ([true, false] ++ num d0 s.width, { s with prev := s.prev ^^^ (d0 <<< (64 - s.lead - s.width) % 18446744073709551616) }) := by
      unfold written; rw [if_pos hh, hx, if_neg h0, if_pos e, shl_shr' hlt (by omega)]
    rw [hw, if_neg h0, if_pos (by rfl)]
    simp only [Prod.mk.injEq, and_true, true_and]
    omega

theorem getX_C3a (hh : s.has = true) (h : getN l at_ 1 = (1, 0)) (h1 : getN l (at_ + 1) 1 = (1, 0)) (h2 : (getN l (at_ + 2) 5).2 ≠ 0) : getX l at_ s = (0, 0, Vl.zero, 10) := by
  obtain ⟨i, rfl, hi, _⟩ := getX_in h
  have e : (getN l ((i : Int) + 2) 5).2 = 10 := by rcases getN_err l ((i : Int) + 2) 5 with h' | h'; exact absurd h' h2; exact h'
  exact getX_err (by unfold valueX; rw [if_pos hh, if_neg (by rw [h]; simp), if_neg (by rw [h1]; simp), if_neg (by rw [h1]; simp), if_pos h2]; exact e) (by decide) (by omega)
theorem getX_C3b (hh : s.has = true) (h : getN l at_ 1 = (1, 0)) (h1 : getN l (at_ + 1) 1 = (1, 0)) (h2 : (getN l (at_ + 2) 5).2 = 0) (h3 : (getN l (at_ + 7) 6).2 ≠ 0) : getX l at_ s = (0, 0, Vl.zero, 10) := by
  obtain ⟨i, rfl, hi, _⟩ := getX_in h
  have e : (getN l ((i : Int) + 7) 6).2 = 10 := by rcases getN_err l ((i : Int) + 7) 6 with h' | h'; exact absurd h' h3; exact h'
  exact getX_err (by unfold valueX; rw [if_pos hh, if_neg (by rw [h]; simp), if_neg (by rw [h1]; simp), if_neg (by rw [h1]; simp), if_neg (by simpa using h2), if_pos h3]; exact e) (by decide) (by omega)
theorem getX_C3c (hh : s.has = true) (h : getN l at_ 1 = (1, 0)) (h1 : getN l (at_ + 1) 1 = (1, 0)) {L S : Nat} (h2 : getN l (at_ + 2) 5 = (L, 0)) (h3 : getN l (at_ + 7) 6 = (S, 0)) (h4 : 64 < L + (S + 1)) : getX l at_ s = (0, 0, Vl.zero, 30) := by
  obtain ⟨i, rfl, hi, _⟩ := getX_in h
  exact getX_err (by unfold valueX; rw [if_pos hh, if_neg (by rw [h]; simp), if_neg (by rw [h1]; simp), if_neg (by rw [h1]; simp), if_neg (by rw [h2]; simp), if_neg (by rw [h3]; simp), if_pos (by rw [h2, h3]; exact h4)]) (by decide) (by omega)
theorem getX_C3d (hh : s.has = true) (h : getN l at_ 1 = (1, 0)) (h1 : getN l (at_ + 1) 1 = (1, 0)) {L S : Nat} (h2 : getN l (at_ + 2) 5 = (L, 0)) (h3 : getN l (at_ + 7) 6 = (S, 0)) (h4 : ¬ 64 < L + (S + 1)) (h5 : (getN l (at_ + 13) (S + 1)).2 ≠ 0) : getX l at_ s = (0, 0, Vl.zero, 10) := by
  obtain ⟨i, rfl, hi, _⟩ := getX_in h
  have e : (getN l ((i : Int) + 13) (S + 1)).2 = 10 := by rcases getN_err l ((i : Int) + 13) (S + 1) with h' | h'; exact absurd h' h5; exact h'
  exact getX_err (by unfold valueX; rw [if_pos hh, if_neg (by rw [h]; simp), if_neg (by rw [h1]; simp), if_neg (by rw [h1]; simp), if_neg (by rw [h2]; simp), if_neg (by rw [h3]; simp), if_neg (by rw [h2, h3]; exact h4), if_pos (by rw [h3]; exact h5), h3]; exact e) (by decide) (by omega)

theorem getX_C3e (hh : s.has = true) (h : getN l at_ 1 = (1, 0)) (h1 : getN l (at_ + 1) 1 = (1, 0)) {L S d0 : Nat} (h2 : getN l (at_ + 2) 5 = (L, 0)) (h3 : getN l (at_ + 7) 6 = (S, 0)) (h4 : ¬ 64 < L + (S + 1)) (h5 : getN l (at_ + 13) (S + 1) = (d0, 0)) :
    getX l at_ s = if d0 <<< (64 - L - (S + 1)) % 18446744073709551616 = 0 ∨ inBand s.lead s.width (d0 <<< (64 - L - (S + 1)) % 18446744073709551616) = true ∨ ¬ (L = aLead (d0 <<< (64 - L - (S + 1)) % 18446744073709551616) ∧ S + 1 = aSize (d0 <<< (64 - L - (S + 1)) % 18446744073709551616)) then (0, 0, Vl.zero, 30)
      else (s.prev ^^^ (d0 <<< (64 - L - (S + 1)) % 18446744073709551616), at_ + 13 + (S + 1 : Nat), ⟨true, s.prev ^^^ (d0 <<< (64 - L - (S + 1)) % 18446744073709551616), L, S + 1⟩, 0) := by
  obtain ⟨i, rfl, hi, _⟩ := getX_in h
  obtain ⟨k, hk, hk2, hb⟩ := getN_in (w := 5) (at_ := (i : Int) + 2) (l := l) (by rw [h2])
  obtain rfl : k = i + 2 := by omega
  rw [← hk, h2] at hb
  obtain ⟨k, hk, hk2, hb'⟩ := getN_in (w := 6) (at_ := (i : Int) + 7) (l := l) (by rw [h3])
  obtain rfl : k = i + 7 := by omega
  rw [← hk, h3] at hb'
  obtain ⟨k, hk, hk2, hb''⟩ := getN_in (w := S + 1) (at_ := (i : Int) + 13) (l := l) (by rw [h5])
  obtain rfl : k = i + 13 := by omega
  rw [← hk, h5] at hb''
  have hL : L < 2 ^ 5 := by have := getN_lt l ((i : Int) + 2) 5; rwa [h2] at this
  have hS : S < 2 ^ 6 := by have := getN_lt l ((i : Int) + 7) 6; rwa [h3] at this
  have hlt : d0 < 2 ^ (S + 1) := by have := getN_lt l ((i : Int) + 13) (S + 1); rwa [h5] at this
  have hb2 : (l.drop i).take (13 + (S + 1)) = [true, true] ++ num L 5 ++ num S 6 ++ num d0 (S + 1) := by
    have e1 := two_bits h h1 (5 + (6 + (S + 1)))
    have e2 : (l.drop (i + 2)).take (5 + (6 + (S + 1))) = num L 5 ++ (num S 6 ++ num d0 (S + 1)) := by
      rw [take_two, hb, take_two, show i + 2 + 5 = i + 7 by omega, hb', show i + 7 + 6 = i + 13 by omega, hb'']
    rw [show 13 + (S + 1) = 2 + (5 + (6 + (S + 1))) by omega, e1, e2]
    simp only [List.append_assoc]
    rfl
  have hv : valueX l i s = (s.prev ^^^ (d0 <<< (64 - L - (S + 1)) % 18446744073709551616), 13 + (S + 1), 0) := by
    unfold valueX; rw [if_pos hh, if_neg (by rw [h]; simp), if_neg (by rw [h1]; simp), if_neg (by rw [h1]; simp), if_neg (by rw [h2]; simp), if_neg (by rw [h3]; simp), if_neg (by rw [h2, h3]; exact h4), if_neg (by rw [h3, h5]; simp), h3, h2, h5]
  rw [getX_val hv (by omega), hb2]
  have hx : ∀ d, (s.prev ^^^ d) ^^^ s.prev = d := fun d => by rw [Nat.xor_comm s.prev d, Nat.xor_assoc, Nat.xor_self, Nat.xor_zero]
  have hd := shl_lt64 d0 (64 - L - (S + 1))
  have hsr : (d0 <<< (64 - L - (S + 1)) % 18446744073709551616) >>> (64 - L - (S + 1)) = d0 := shl_shr' hlt (by omega)
  generalize hdd : d0 <<< (64 - L - (S + 1)) % 18446744073709551616 = d at *
  by_cases h0 : d = 0
  · have hr : (d = 0 ∨ inBand s.lead s.width d = true ∨ ¬ (L = aLead d ∧ S + 1 = aSize d)) := .inl h0
    have hw : (written s (s.prev ^^^ d)).1 = [false] := by unfold written; rw [if_pos hh, hx, if_pos h0]
    rw [if_pos hr, hw, if_neg (by intro hc; have := congrArg List.length hc; simp [num_length] at this)]
  · by_cases hi : inBand s.lead s.width d = true
    · have hr : (d = 0 ∨ inBand s.lead s.width d = true ∨ ¬ (L = aLead d ∧ S + 1 = aSize d)) := .inr (.inl hi)
      have hw : (written s (s.prev ^^^ d)).1 = [true, false] ++ num (d >>> (64 - s.lead - s.width)) s.width := by unfold written; rw [if_pos hh, hx, if_neg h0, if_pos hi]
      rw [if_pos hr, hw, if_neg (by intro hc; simp at hc)]
    · have hw : (written s (s.prev ^^^ d)) = ([true, true] ++ num (aLead d) 5 ++ num (aSize d - 1) 6 ++ num (d >>> tz d) (aSize d), ⟨true, s.prev ^^^ d, aLead d, aSize d⟩) := by
        unfold written; rw [if_pos hh, hx, if_neg h0, if_neg hi]
      have hA := around_le hd h0
      rw [hw]
      by_cases hc : L = aLead d ∧ S + 1 = aSize d
      · have hr : ¬ (d = 0 ∨ inBand s.lead s.width d = true ∨ ¬ (L = aLead d ∧ S + 1 = aSize d)) := by rintro (h' | h' | h'); exact h0 h'; exact hi h'; exact h' hc
        rw [if_neg hr]
        obtain ⟨c1, c2⟩ := hc
        have ht : tz d = 64 - L - (S + 1) := by omega
        rw [if_pos (by rw [ht, hsr, ← c1, ← c2, show S + 1 - 1 = S by omega])]
        simp only [Prod.mk.injEq, and_true, true_and, ← c1, ← c2]
        omega
      · have hr : (d = 0 ∨ inBand s.lead s.width d = true ∨ ¬ (L = aLead d ∧ S + 1 = aSize d)) := .inr (.inr hc)
        rw [if_pos hr, if_neg ?_]
        intro hcc
        apply hc
        have hl := congrArg List.length hcc
        simp [num_length] at hl
        have hS2 : aSize d = S + 1 := by omega
        refine ⟨?_, hS2.symm⟩
        simp only [hS2, List.append_assoc] at hcc
        have := (List.append_inj (List.append_cancel_left hcc) (by simp [num_length])).1
        exact (num_inj hL (by omega) this.symm)
end
end Go.Proofs.YthljlajdkdgieaaDoor
