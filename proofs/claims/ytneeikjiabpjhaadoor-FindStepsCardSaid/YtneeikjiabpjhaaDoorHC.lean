/- Texts merged: RolP, RolW, RolN. -/
import Derived.Test.YtneeikjiabpjhaaDoorGA
import Derived.Test.YtneeikjiabpjhaaDoorGB
import Derived.Test.YtneeikjiabpjhaaDoorBitZ
import Derived.Lib.Mul64
import Derived.Laws.Bits64b
namespace Go.Proofs.YtneeikjiabpjhaaDoor
set_option linter.unusedVariables false
set_option linter.unusedSimpArgs false

/-- One bit more. -/
def nextR (s : Nat) (b : Bool) : Nat := (s * 1000000007 + (1 + b.toNat)) % 2305843009213693951
def moreR (s : Nat) (l : List Bool) : Nat := l.foldl nextR (s % 2305843009213693951)
theorem nextR_lt (s : Nat) (b : Bool) : nextR s b < 2305843009213693951 := Nat.mod_lt _ (Nat.zero_lt_succ _)
theorem fold_lt : ∀ (l : List Bool) (x : Nat), x < 2305843009213693951 → l.foldl nextR x < 2305843009213693951
  | [], x, h => h
  | b :: l, x, _ => fold_lt l _ (nextR_lt x b)
theorem moreR_lt (s : Nat) (l : List Bool) : moreR s l < 2305843009213693951 := by
  unfold moreR
  have h := Nat.mod_lt s (Nat.zero_lt_succ 2305843009213693950)
  exact fold_lt l _ h
theorem moreR_of {s : Nat} (h : s < 2305843009213693951) (l : List Bool) : moreR s l = l.foldl nextR s := by
  unfold moreR; rw [Nat.mod_eq_of_lt h]
theorem moreR_app (s : Nat) (a b : List Bool) : moreR s (a ++ b) = moreR (moreR s a) b := by
  rw [moreR_of (moreR_lt s a)]
  unfold moreR
  rw [List.foldl_append]
theorem moreR_snoc (s : Nat) (l : List Bool) (b : Bool) : moreR s (l ++ [b]) = nextR (moreR s l) b := by
  unfold moreR
  rw [List.foldl_append, List.foldl_cons, List.foldl_nil]
theorem moreR_nil (s : Nat) : moreR s [] = s % 2305843009213693951 := by
  unfold moreR
  rw [List.foldl_nil]

/-! The division of two words by p = 2^61 - 1: y = 8 p, in halves 4294967295 and 4294967288. -/
theorem quot_ (u K : Nat) (h : 0 < K) : ∃ q r, u = q * K + r ∧ r < K := ⟨u / K, u % K, by rw [Nat.mul_comm]; exact (Nat.div_add_mod u K).symm, Nat.mod_lt u h⟩
/-- What is tried is never too small. -/
structure DivI (u v Q q r : Nat) : Prop where
  ge : Q ≤ q
  eq : u = q * 4294967295 + r
  le : q ≤ 4294967297
theorem div_start {u v Q R q r : Nat} (hu : u < 18446744073709551608) (hv : v < 4294967296) (hQ : u * 4294967296 + v = Q * 18446744073709551608 + R) (hq : u = q * 4294967295 + r) (hr : r < 4294967295) : DivI u v Q q r := by
  refine ⟨?_, hq, ?_⟩ <;> omega
theorem div_again {u v Q R q r : Nat} (hu : u < 18446744073709551608) (hv : v < 4294967296) (hQ : u * 4294967296 + v = Q * 18446744073709551608 + R) (hR : R < 18446744073709551608) (h : DivI u v Q q r) (hr : r < 4294967296) (ht : 4294967296 ≤ q ∨ 4294967296 * r + v < q * 4294967288) :
    Q < q ∧ DivI u v Q (q - 1) (r + 4294967295) := by
  have h1 := h.ge
  have h2 := h.eq
  have h3 := h.le
  have h4 : Q < q := by rcases ht with ht | ht <;> omega
  obtain ⟨p, rfl⟩ : ∃ p, q = p + 1 := ⟨q - 1, by omega⟩
  have h5 : u = p * 4294967295 + (r + 4294967295) := by rw [h2, Nat.add_mul, Nat.one_mul, Nat.add_assoc, Nat.add_comm r]
  rw [Nat.add_sub_cancel]
  exact ⟨h4, ⟨by omega, h5, by omega⟩⟩
theorem div_exit {u v Q R q r : Nat} (hu : u < 18446744073709551608) (hv : v < 4294967296) (hQ : u * 4294967296 + v = Q * 18446744073709551608 + R) (hR : R < 18446744073709551608) (h : DivI u v Q q r) (ht2 : ¬ 4294967296 * r + v < q * 4294967288) :
    q = Q := by
  obtain ⟨h1, h2, h3⟩ := h
  omega
theorem div_break {u v Q R q r : Nat} (hu : u < 18446744073709551608) (hv : v < 4294967296) (hQ : u * 4294967296 + v = Q * 18446744073709551608 + R) (hR : R < 18446744073709551608) (h : DivI u v Q q r) (hr : 4294967296 ≤ r) :
    q = Q := by
  obtain ⟨h1, h2, h3⟩ := h
  omega
theorem div_fin {U Q R2 : Nat} (h : U * 8 = Q * 18446744073709551608 + R2) (h2 : R2 < 18446744073709551608) : R2 / 8 = U % 2305843009213693951 := by omega
theorem div_all {hi lo u v x q1 R q0 R2 U : Nat} (hh : hi < 2305843009213693951) (hl : lo < 18446744073709551616) (hu : u = hi * 8 + lo / 2305843009213693952) (hv : v = lo * 8 % 18446744073709551616 / 4294967296) (hx : x = lo * 8 % 18446744073709551616 % 4294967296)
    (e1 : u * 4294967296 + v = q1 * 18446744073709551608 + R) (e3 : R * 4294967296 + x = q0 * 18446744073709551608 + R2) (e4 : R2 < 18446744073709551608) (hU : U = hi * 18446744073709551616 + lo) : R2 / 8 = U % 2305843009213693951 := by
  refine div_fin (Q := q1 * 4294967296 + q0) ?_ e4
  omega
end Go.Proofs.YtneeikjiabpjhaaDoor
namespace Go.Proofs.YtneeikjiabpjhaaDoor
set_option linter.unusedVariables false
set_option linter.unusedSimpArgs false
open Go.RowKit

theorem maskN (a : Nat) (ha : a < 18446744073709551616) : bits .and .u64 (a : Int) 4294967295 = ((a % 4294967296 : Nat) : Int) := by
  have h := bits_and_u64_nat a 4294967295 ha (by omega)
  have e : a &&& 4294967295 = a % 4294967296 := Nat.and_two_pow_sub_one_eq_mod a 32
  rw [e] at h
  exact h
theorem divN (a : Nat) : (a : Int) / 4294967296 = ((a / 4294967296 : Nat) : Int) := by omega
theorem mulN (a b : Nat) : (a : Int) * (b : Int) = ((a * b : Nat) : Int) := (Int.natCast_mul a b).symm
theorem addN (a b : Nat) : (a : Int) + (b : Int) = ((a + b : Nat) : Int) := (Int.natCast_add a b).symm
theorem wrapN (a : Nat) (ha : a < 18446744073709551616) : IntKind.u64.wrap (a : Int) = (a : Int) := by rw [IntKind.wrap_u64]; omega
theorem wrapM (a : Nat) : IntKind.u64.wrap (a : Int) = ((a % 18446744073709551616 : Nat) : Int) := by rw [IntKind.wrap_u64]; omega

theorem un32_eq {hi lo : Nat} (hh : hi < 2305843009213693951) (hl : lo < 18446744073709551616) : bits .or .u64 ((hi : Int) * 8) ((lo : Int) / 2305843009213693952) = ((hi * 8 + lo / 2305843009213693952 : Nat) : Int) := by
  have e1 : (hi : Int) * 8 = ((hi * 8 : Nat) : Int) := by omega
  have e2 : (lo : Int) / 2305843009213693952 = ((lo / 2305843009213693952 : Nat) : Int) := by omega
  rw [e1, e2, or64 _ _ (by omega) (by omega)]
  have h := Nat.shiftLeft_add_eq_or_of_lt (a := hi) (b := lo / 2305843009213693952) (i := 3) (by omega)
  rw [Nat.shiftLeft_eq] at h
  rw [show (2 : Nat) ^ 3 = 8 from rfl] at h
  rw [h]
theorem dv1 : bits .and .u64 18446744073709551608 4294967295 = 4294967288 := by decide +kernel
theorem dv2 {z lo : Nat} (hz : z = lo * 8 % 18446744073709551616) : IntKind.u64.wrap ((lo : Int) * 8) = (z : Int) := by rw [IntKind.wrap_u64]; omega
theorem dv3 {u q r : Nat} (hr : u = q * 4294967295 + r) (h : r < 4294967295) : (u : Int).tdiv 4294967295 = (q : Int) := by rw [Int.tdiv_eq_ediv_of_nonneg (Int.natCast_nonneg u)]; omega
theorem dv4 {u q r : Nat} (hu : u < 18446744073709551608) (hr : u = q * 4294967295 + r) (h : r < 4294967295) : IntKind.u64.wrap (q : Int) = (q : Int) := wrapN q (by omega)
theorem dv5 {u q r : Nat} (hu : u < 18446744073709551608) (hr : u = q * 4294967295 + r) (h : r < 4294967295) : IntKind.u64.wrap ((u : Int) - IntKind.u64.wrap ((q : Int) * 4294967295)) = (r : Int) := by rw [IntKind.wrap_u64, IntKind.wrap_u64]; omega
theorem dv6 {u v Q R : Nat} (hR : u * 4294967296 + v = Q * 18446744073709551608 + R) (h : R < 18446744073709551608) : IntKind.u64.wrap (IntKind.u64.wrap (IntKind.u64.wrap ((u : Int) * 4294967296) + (v : Int)) - IntKind.u64.wrap ((Q : Int) * 18446744073709551608)) = (R : Int) := by
  rw [IntKind.wrap_u64, IntKind.wrap_u64, IntKind.wrap_u64, IntKind.wrap_u64]; omega
/-- The numbers of the second step. -/
structure DvG (x R q r Q R2 : Nat) : Prop where
  hr : R = q * 4294967295 + r
  hr1 : r < 4294967295
  hR : R * 4294967296 + x = Q * 18446744073709551608 + R2
  hR8 : R2 < 18446744073709551608
theorem dv_ex2 (x R : Nat) : ∃ q r Q R2, DvG x R q r Q R2 := by
  obtain ⟨q, r, hr, hr1⟩ := quot_ R 4294967295 (Nat.zero_lt_succ _)
  obtain ⟨Q, R2, hR, hR8⟩ := quot_ (R * 4294967296 + x) 18446744073709551608 (Nat.zero_lt_succ _)
  exact ⟨q, r, Q, R2, hr, hr1, hR, hR8⟩
/-- The numbers of the first step. -/
structure DvF (hi lo u z v x q r Q R : Nat) : Prop where
  hu : u = hi * 8 + lo / 2305843009213693952
  hz : z = lo * 8 % 18446744073709551616
  hv : v = z / 4294967296
  hx : x = z % 4294967296
  hr : u = q * 4294967295 + r
  hr1 : r < 4294967295
  hR : u * 4294967296 + v = Q * 18446744073709551608 + R
  hR8 : R < 18446744073709551608
  hu8 : u < 18446744073709551608
  hv32 : v < 4294967296
  hx32 : x < 4294967296
theorem dv_ex {hi lo : Nat} (hh : hi < 2305843009213693951) (hl : lo < 18446744073709551616) : ∃ u z v x q r Q R, DvF hi lo u z v x q r Q R := by
  obtain ⟨u, hu⟩ : ∃ u, u = hi * 8 + lo / 2305843009213693952 := ⟨_, rfl⟩
  obtain ⟨z, hz⟩ : ∃ z, z = lo * 8 % 18446744073709551616 := ⟨_, rfl⟩
  obtain ⟨v, hv⟩ : ∃ v, v = z / 4294967296 := ⟨_, rfl⟩
  obtain ⟨x, hx⟩ : ∃ x, x = z % 4294967296 := ⟨_, rfl⟩
  obtain ⟨q, r, hr, hr1⟩ := quot_ u 4294967295 (Nat.zero_lt_succ _)
  obtain ⟨Q, R, hR, hR8⟩ := quot_ (u * 4294967296 + v) 18446744073709551608 (Nat.zero_lt_succ _)
  exact ⟨u, z, v, x, q, r, Q, R, hu, hz, hv, hx, hr, hr1, hR, hR8, by omega, by omega, by omega⟩
/-- A remainder; whatever is told beside. -/
def DivPost (w : World) (r : Nat) (en : Ending) (w' : World) : Prop := (∃ x, w' = over w x) ∧ ∃ q : Int, en = .returned (.tuple #[.int .u64 q, .int .u64 (r : Nat)])
theorem DivPost.mk {w w' : World} {q v : Int} {r : Nat} (ho : ∃ x, w' = over w x) (hv : v = ((r : Nat) : Int)) : DivPost w r (.returned (.tuple #[.int .u64 q, .int .u64 v])) w' := ⟨ho, q, by rw [hv]⟩
end Go.Proofs.YtneeikjiabpjhaaDoor
namespace Go.Proofs.YtneeikjiabpjhaaDoor
set_option linter.unusedVariables false
set_option linter.unusedSimpArgs false
open Go.RowKit

theorem next_eq (s : Nat) (b : Bool) : (s * 1000000007 % 2305843009213693951 + (1 + b.toNat)) % 2305843009213693951 = nextR s b := by
  unfold nextR
  rw [Nat.mod_add_mod]
theorem bit_ne {b k : Nat} (hb : b < 256) (hk : k < 8) : (bits .and .u8 ((b : Int) / (2 : Int) ^ k) 1 != 0) = b.testBit k := by
  rw [cast_shr, and1_8 _ (shr_lt hb), bit_p hk]
  cases b.testBit k <;> rfl
theorem moreR_take {s : Nat} {l : List Bool} {k : Nat} (h : k < l.length) : moreR s (l.take (k + 1)) = nextR (moreR s (l.take k)) l[k] := by
  have e : l.take (k + 1) = l.take k ++ [l[k]] := by
    rw [List.take_add_one, List.getElem?_eq_getElem h]; rfl
  rw [e, moreR_snoc]
end Go.Proofs.YtneeikjiabpjhaaDoor
