/- Samples as bits: plain. -/
import Derived.Test.YthljlajdkdgieaaDoorZigP
namespace Go.Proofs.YthljlajdkdgieaaDoor
set_option linter.unusedVariables false
set_option linter.unusedSimpArgs false

def wz (x : Int) : Int := (x + 9223372036854775808) % 18446744073709551616 - 9223372036854775808
theorem wz_ok (x : Int) : i64ok (wz x) := by unfold wz i64ok; omega
theorem wz_id {x : Int} (h : i64ok x) : wz x = x := by unfold i64ok at h; unfold wz; omega
theorem wz_add (x y : Int) : wz (wz x + y) = wz (x + y) := by unfold wz; omega
theorem wz_add' (x y : Int) : wz (x + wz y) = wz (x + y) := by unfold wz; omega
theorem wz_sub (x y : Int) : wz (wz x - y) = wz (x - y) := by unfold wz; omega
def uz (x : Int) : Nat := (x % 18446744073709551616).toNat
theorem uz_lt (x : Int) : uz x < 18446744073709551616 := by unfold uz; omega
theorem wz_uz {x : Int} (h : i64ok x) : wz (uz x : Nat) = x := by unfold i64ok at h; unfold wz uz; omega
theorem uz_wz {n : Nat} (h : n < 18446744073709551616) : uz (wz n) = n := by unfold wz uz; omega

/-- What a writer of samples knows. -/
structure En where
  n : Int
  last : Int
  delta : Int
  val : Vl
  deriving DecidableEq, Inhabited
def En.zero : En := ⟨0, 0, 0, Vl.zero⟩
def En.wf (e : En) : Prop := i64ok e.n ∧ i64ok e.last ∧ i64ok e.delta ∧ e.val.wf
def soundE (e : En) : Bool := if e.n < 0 then false else if e.n = 0 then decide (e = En.zero) else e.val.has && soundV e.val
theorem soundE_zero {e : En} (h : soundE e = true) (h0 : e.n = 0) : e = En.zero := by
  unfold soundE at h; rw [if_neg (by omega), if_pos h0] at h; simpa using h
theorem soundE_pos {e : En} (h : soundE e = true) (h0 : e.n ≠ 0) : 0 < e.n ∧ e.val.has = true ∧ soundV e.val = true := by
  unfold soundE at h
  split at h
  · cases h
  · rename_i h1
    try rw [if_neg h0] at h
    simp only [Bool.and_eq_true] at h
    exact ⟨by omega, h.1, h.2⟩
theorem soundE_val {e : En} (h : soundE e = true) : soundV e.val = true := by
  by_cases h0 : e.n = 0
  · rw [soundE_zero h h0]; rfl
  · exact (soundE_pos h h0).2.2

/-- The time's bits, and how far it lies behind the last one. -/
def timeBits (e : En) (t : Int) : List Bool := if e.n = 0 then num (uz t) 64 else zbits (foldZ (wz (wz (t - e.last) - e.delta)))
def timeDelta (e : En) (t : Int) : Int := if e.n = 0 then 0 else wz (t - e.last)
/-- A sample's bits, and what is known then. -/
def laid (e : En) (t : Int) (v : Nat) : List Bool × En := (timeBits e t ++ (written e.val v).1, ⟨wz (e.n + 1), t, timeDelta e t, (written e.val v).2⟩)
/-- May it come behind? -/
def comes (e : En) (t : Int) : Prop := e.n = 0 ∨ e.last < t
instance (e : En) (t : Int) : Decidable (comes e t) := inferInstanceAs (Decidable (_ ∨ _))

theorem timeBits_len (e : En) (t : Int) : 1 ≤ (timeBits e t).length ∧ (timeBits e t).length ≤ 69 := by
  unfold timeBits; split
  · rw [num_length]; omega
  · exact zbits_len _
theorem laid_sound {e : En} {t : Int} {v : Nat} (hs : soundE e = true) (hw : e.wf) (ht : i64ok t) (hv : v < 18446744073709551616) (hn : e.n < 9223372036854775807) : soundE (laid e t v).2 = true ∧ (laid e t v).2.wf ∧ (laid e t v).2.n = e.n + 1 ∧ (laid e t v).2.last = t := by
  have h := written_sound (soundE_val hs) hw.2.2.2 hv
  have h0 : 0 ≤ e.n := by
    by_cases h0 : e.n = 0
    · omega
    · exact Int.le_of_lt (soundE_pos hs h0).1
  have e1 : wz (e.n + 1) = e.n + 1 := wz_id (by have := hw.1; unfold i64ok at *; omega)
  refine ⟨?_, ⟨?_, ht, ?_, h.2.2.2⟩, e1, rfl⟩
  · unfold soundE laid
    simp only [e1]
    rw [if_neg (by omega), if_neg (by omega), h.1, h.2.1]; rfl
  · exact wz_ok _
  · simp only [laid, timeDelta]
    split
    · unfold i64ok; omega
    · exact wz_ok _
theorem laid_len {e : En} {t : Int} {v : Nat} (hs : soundE e = true) (hw : e.wf) (hv : v < 18446744073709551616) : 1 ≤ (laid e t v).1.length ∧ (laid e t v).1.length ≤ 146 := by
  have := written_len (soundE_val hs) hw.2.2.2 hv
  have := timeBits_len e t
  simp only [laid, List.length_append]; omega

/-- A time at a place: it, how far it lies behind the last one, the place behind; is there one? -/
def getT (l : List Bool) (at_ : Int) (e : En) : Int × Int × Int × Bool :=
  if e.n = 0 then (wz (getN l at_ 64).1, 0, at_ + 64, decide ((getN l at_ 64).2 = 0))
  else (wz (e.last + wz ((getZ l at_).1 + e.delta)), wz ((getZ l at_).1 + e.delta), (getZ l at_).2.1, decide ((getZ l at_).2.2 = 0) && decide (e.last < wz (e.last + wz ((getZ l at_).1 + e.delta))))
/-- The sample at a place, the place behind it, what is known then; an error. -/
def getC (l : List Bool) (at_ : Int) (e : En) : (Int × Nat) × Int × En × Nat :=
  if (getT l at_ e).2.2.2 = false then ((0, 0), 0, En.zero, 61)
  else if (getX l (getT l at_ e).2.2.1 e.val).2.2.2 ≠ 0 then ((0, 0), 0, En.zero, 61)
  else (((getT l at_ e).1, (getX l (getT l at_ e).2.2.1 e.val).1), (getX l (getT l at_ e).2.2.1 e.val).2.1, ⟨wz (e.n + 1), (getT l at_ e).1, (getT l at_ e).2.1, (getX l (getT l at_ e).2.2.1 e.val).2.2.1⟩, 0)

theorem getT_laid (a r : List Bool) {e : En} {t : Int} (hw : e.wf) (ht : i64ok t) (hc : comes e t) : getT (a ++ (timeBits e t ++ r)) a.length e = (t, timeDelta e t, ((a.length + (timeBits e t).length : Nat) : Int), true) := by
  unfold getT timeBits timeDelta
  by_cases h0 : e.n = 0
  · simp only [if_pos h0]
    rw [getN_num a r (uz_lt t)]
    simp only [wz_uz ht, num_length]
    simp
  · simp only [if_neg h0]
    have h1 : foldZ (wz (wz (t - e.last) - e.delta)) < 18446744073709551616 := foldZ_lt (wz_ok _)
    rw [getZ_written a r h1, unfold_fold]
    have e1 : wz (wz (wz (t - e.last) - e.delta) + e.delta) = wz (t - e.last) := by
      rw [wz_add, show wz (t - e.last) - e.delta + e.delta = wz (t - e.last) by omega, wz_id (wz_ok _)]
    have e2 : wz (e.last + wz (t - e.last)) = t := by
      rw [wz_add', show e.last + (t - e.last) = t by omega, wz_id ht]
    simp only [e1, e2]
    have : e.last < t := by rcases hc with h | h; exact absurd h h0; exact h
    simp [this]

theorem getC_laid (a r : List Bool) {e : En} {t : Int} {v : Nat} (hs : soundE e = true) (hw : e.wf) (ht : i64ok t) (hv : v < 18446744073709551616) (hc : comes e t) :
    getC (a ++ ((laid e t v).1 ++ r)) a.length e = ((t, v), ((a.length + (laid e t v).1.length : Nat) : Int), (laid e t v).2, 0) := by
  unfold getC
  have h1 := getT_laid a ((written e.val v).1 ++ r) hw ht hc
  have h2 := getX_written (a ++ timeBits e t) r (soundE_val hs) hw.2.2.2 hv
  simp only [laid, List.append_assoc] at *
  rw [h1]
  simp only [Bool.true_eq_false, if_false]
  rw [List.length_append] at h2
  rw [h2]
  simp only [ne_eq, not_true, if_false, List.length_append]
  simp only [Prod.mk.injEq, and_true, true_and]
  omega

theorem getT_ok {l : List Bool} {at_ : Int} {e : En} (h : (getT l at_ e).2.2.2 = true) (hw : e.wf) : 0 ≤ at_ ∧ at_ < (getT l at_ e).2.2.1 ∧ (getT l at_ e).2.2.1 ≤ l.length ∧ i64ok (getT l at_ e).1 ∧ comes e (getT l at_ e).1 ∧ timeDelta e (getT l at_ e).1 = (getT l at_ e).2.1 ∧ timeBits e (getT l at_ e).1 = (l.drop at_.toNat).take ((getT l at_ e).2.2.1.toNat - at_.toNat) := by
  unfold getT at *
  by_cases h0 : e.n = 0
  · simp only [if_pos h0, decide_eq_true_eq] at h ⊢
    obtain ⟨i, rfl, hi, hb⟩ := getN_in h
    have hlt : (getN l i 64).1 < 18446744073709551616 := getN_lt l i 64
    refine ⟨by omega, by omega, by omega, wz_ok _, .inl h0, by unfold timeDelta; rw [if_pos h0], ?_⟩
    unfold timeBits
    rw [if_pos h0, uz_wz hlt, Int.toNat_natCast, hb.symm]
    congr 1; omega
  · simp only [if_neg h0, Bool.and_eq_true, decide_eq_true_eq] at h ⊢
    obtain ⟨hz, hlt⟩ := h
    obtain ⟨⟨d, nx, er⟩, hg⟩ : ∃ p, getZ l at_ = p := ⟨_, rfl⟩
    rw [hg] at hz hlt ⊢
    simp only at hz hlt ⊢
    subst hz
    obtain ⟨a1, a2, a3, a4, a5⟩ := getZ_ok hg
    have hle : i64ok e.last := hw.2.1
    have e1 : wz (wz (e.last + wz (d + e.delta)) - e.last) = wz (d + e.delta) := by
      rw [wz_sub, show e.last + wz (d + e.delta) - e.last = wz (d + e.delta) by omega, wz_id (wz_ok _)]
    have e2 : wz (wz (d + e.delta) - e.delta) = d := by
      rw [wz_sub, show d + e.delta - e.delta = d by omega, wz_id a4]
    refine ⟨a1, a2, a3, wz_ok _, .inr hlt, by unfold timeDelta; rw [if_neg h0, e1], ?_⟩
    unfold timeBits
    rw [if_neg h0, e1, e2, a5]

theorem getC_ok {l : List Bool} {at_ n t : Int} {v : Nat} {e d : En} (h : getC l at_ e = ((t, v), n, d, 0)) (hw : e.wf) : 0 ≤ at_ ∧ at_ < n ∧ n ≤ l.length ∧ i64ok t ∧ comes e t ∧ (laid e t v).2 = d ∧ (laid e t v).1 = (l.drop at_.toNat).take (n.toNat - at_.toNat) := by
  unfold getC at h
  split at h
  · simp at h
  rename_i h1
  have h1 : (getT l at_ e).2.2.2 = true := by simpa using h1
  obtain ⟨a1, a2, a3, a4, a5, a6, a7⟩ := getT_ok h1 hw
  split at h
  · simp at h
  rename_i h2
  obtain ⟨⟨x, m, s, er⟩, hx⟩ : ∃ p, getX l (getT l at_ e).2.2.1 e.val = p := ⟨_, rfl⟩
  rw [hx] at h h2
  simp only at h2
  have h2 : er = 0 := by simpa using h2
  subst h2
  obtain ⟨b1, b2, b3, b4, b5⟩ := getX_ok hx
  simp only [Prod.mk.injEq, and_true] at h
  obtain ⟨⟨rfl, rfl⟩, rfl, rfl⟩ := h
  refine ⟨a1, by omega, b3, a4, a5, ?_, ?_⟩
  · simp only [laid, En.mk.injEq, true_and]
    exact ⟨a6, b4⟩
  · simp only [laid, a7, b5]
    generalize (getT l at_ e).2.2.1 = k at *
    rw [show m.toNat - at_.toNat = (k.toNat - at_.toNat) + (m.toNat - k.toNat) by omega, take_two, show at_.toNat + (k.toNat - at_.toNat) = k.toNat by omega]
end Go.Proofs.YthljlajdkdgieaaDoor
