/- Texts merged: RxA, RefP, RzP. -/
import Derived.Test.YtojkoijdndinoaaDoorGC
import Derived.Test.YtojkoijdndinoaaDoorGA
import Derived.Test.YtojkoijdndinoaaDoorGB
import Derived.Test.YtojkoijdndinoaaDoorGN
import Derived.Test.YtojkoijdndinoaaDoorRbO
import Derived.Test.YtojkoijdndinoaaDoorGD
namespace Go.Proofs.YtojkoijdndinoaaDoor
set_option linter.unusedVariables false
set_option linter.unusedSimpArgs false
open Go.RowKit

/-- A list in a call's own memory; all of B stays. -/
def PutL (B : World) (base : Nat) (xs : List Bool) (en : Ending) (w' : World) : Prop := (∃ e, w' = over B e) ∧ ∃ v, en = .returned v ∧ OwnT base w' v xs

theorem OwnT.base_le {base : Nat} {w : World} {v : Value} {xs : List Bool} (h : OwnT base w v xs) (h0 : 0 < xs.length) : base ≤ w.heap.size := by
  obtain ⟨g, cap, _, h2, h3, _⟩ := Own.open_ tcs_len h h0
  omega
theorem and1_64 (x : Nat) (h : x < 18446744073709551616) : bits .and .u64 (x : Int) 1 = ((x % 2 : Nat) : Int) := by
  have := and64 x 1 h (by decide)
  rwa [Nat.and_one_is_mod] at this
theorem bit_pp (v k : Nat) : (v >>> k) % 2 = (v.testBit k).toNat := by
  rw [Nat.testBit_eq_decide_div_mod_eq, Nat.shiftRight_eq_div_pow]
  rcases Nat.mod_two_eq_zero_or_one (v / 2 ^ k) with h | h <;> rw [h] <;> rfl
theorem bit_e (v k : Nat) (hv : v < 18446744073709551616) : bits .and .u64 ((v : Int) / (2 : Int) ^ k) 1 = (((v.testBit k).toNat : Nat) : Int) := by
  rw [cast_shr, and1_64 _ (shr_lt hv), bit_pp]

theorem num_snoc (v k W : Nat) (hk : k + 1 ≤ W) : num (v >>> (k + 1)) (W - (k + 1)) ++ [v.testBit k] = num (v >>> k) (W - k) := by
  have h1 := num_split (v >>> k) (W - (k + 1)) 1
  rw [show W - (k + 1) + 1 = W - k by omega] at h1
  rw [h1, ← Nat.shiftRight_add]
  simp [num, Nat.testBit_shiftRight]

/-! ### written -/

def RwPost (w : World) (L : List Bool) (t : Vl) (en : Ending) (w' : World) : Prop := ∃ v, en = .returned (.tuple #[v, t.v]) ∧ (∃ e, w' = over w e) ∧ OwnT w.heap.size w' v L

theorem bit0_e {d k : Nat} (hd : d < 18446744073709551616) (h : d.testBit k = false) : bits .and .u64 ((d : Int) / (2 : Int) ^ k) 1 = 0 := by rw [bit_e d k hd, h]; rfl
theorem bit1_e {d k : Nat} (hd : d < 18446744073709551616) (h : d.testBit k = true) : bits .and .u64 ((d : Int) / (2 : Int) ^ k) 1 = 1 := by rw [bit_e d k hd, h]; rfl

end Go.Proofs.YtojkoijdndinoaaDoor
namespace Go.Proofs.YtojkoijdndinoaaDoor
set_option linter.unusedVariables false
set_option linter.unusedSimpArgs false
open Go.RowKit
attribute [local go_sem] over_drew

end Go.Proofs.YtojkoijdndinoaaDoor
namespace Go.Proofs.YtojkoijdndinoaaDoor
set_option linter.unusedVariables false
set_option linter.unusedSimpArgs false
open Go.RowKit
attribute [local go_sem] over_drew

/-- Bits of the call's own, an error (the document's). -/
def RzPost (w : World) (L : List Bool) (en : Ending) (w' : World) : Prop :=
  ∃ a c, en = .returned (.tuple #[bv a (pack L).length c L.length, .int .i64 0]) ∧ (∃ e, w' = over w e) ∧ SlB w' a c (pack L)

theorem rep_snoc (k : Nat) : List.replicate k true ++ [true] = List.replicate (k + 1) true := (List.replicate_succ' ..).symm

end Go.Proofs.YtojkoijdndinoaaDoor
