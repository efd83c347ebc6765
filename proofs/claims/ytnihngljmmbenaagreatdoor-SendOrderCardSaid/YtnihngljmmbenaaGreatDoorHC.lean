import Derived.Test.YtnihngljmmbenaaGreatDoorGA
import Derived.Test.YtnihngljmmbenaaGreatDoorGB
import Derived.Test.YtnihngljmmbenaaGreatDoorBitZ
import Derived.Lib.Mul64
import Derived.Laws.Bits64b
namespace Go.Proofs.YtnihngljmmbenaaGreatDoor
set_option linter.unusedVariables false
set_option linter.unusedSimpArgs false
section

def nextR (s : Nat) (b : Bool) : Nat := (s * 1000000007 + (1 + b.toNat)) % 2305843009213693951
def moreR (s : Nat) (l : List Bool) : Nat := l.foldl nextR (s % 2305843009213693951)
theorem nextR_lt (s : Nat) (b : Bool) : nextR s b < 2305843009213693951 := Nat.mod_lt _ (Nat.zero_lt_succ _)
theorem fold_lt : ∀ (l : List Bool) (x : Nat), x < 2305843009213693951 → l.foldl nextR x < 2305843009213693951
  | [], x, h => h
  | b :: l, x, _ => fold_lt l _ (nextR_lt x b)
theorem moreR_lt (s : Nat) (l : List Bool) : moreR s l < 2305843009213693951 := by
  unfold moreR
  have h := Nat.mod_lt s (Nat.zero_lt_succ 2305843009213693950)
  exact fold_lt l _ h
theorem moreR_of {s : Nat} (h : s < 2305843009213693951) (l : List Bool) : moreR s l = l.foldl nextR s := by
  unfold moreR; rw [Nat.mod_eq_of_lt h]
theorem moreR_app (s : Nat) (a b : List Bool) : moreR s (a ++ b) = moreR (moreR s a) b := by
  rw [moreR_of (moreR_lt s a)]
  unfold moreR
  rw [List.foldl_append]
theorem moreR_snoc (s : Nat) (l : List Bool) (b : Bool) : moreR s (l ++ [b]) = nextR (moreR s l) b := by
  unfold moreR
  rw [List.foldl_append, List.foldl_cons, List.foldl_nil]
theorem moreR_nil (s : Nat) : moreR s [] = s % 2305843009213693951 := by
  unfold moreR
  rw [List.foldl_nil]

/-! The division of two words by p = 2^61 - 1: y = 8 p, in halves 4294967295 and 4294967288. -/
theorem quot_ (u K : Nat) (h : 0 < K) : ∃ q r, u = q * K + r ∧ r < K := ⟨u / K, u % K, by rw [Nat.mul_comm]; exact (Nat.div_add_mod u K).symm, Nat.mod_lt u h⟩
structure DivI (u v Q q r : Nat) : Prop where
  ge : Q ≤ q
  eq : u = q * 4294967295 + r
  le : q ≤ 4294967297
theorem div_start {u v Q R q r : Nat} (hu : u < 18446744073709551608) (hv : v < 4294967296) (hQ : u * 4294967296 + v = Q * 18446744073709551608 + R) (hq : u = q * 4294967295 + r) (hr : r < 4294967295) : DivI u v Q q r := by
  refine ⟨?_, hq, ?_⟩ <;> omega
theorem div_again {u v Q R q r : Nat} (hu : u < 18446744073709551608) (hv : v < 4294967296) (hQ : u * 4294967296 + v = Q * 18446744073709551608 + R) (hR : R < 18446744073709551608) (h : DivI u v Q q r) (hr : r < 4294967296) (ht : 4294967296 ≤ q ∨ 4294967296 * r + v < q * 4294967288) :
    Q < q ∧ DivI u v Q (q - 1) (r + 4294967295) := by
  have h1 := h.ge
  have h2 := h.eq
  have h3 := h.le
  have h4 : Q < q := by rcases ht with ht | ht <;> omega
  obtain ⟨p, rfl⟩ : ∃ p, q = p + 1 := ⟨q - 1, by omega⟩
  have h5 : u = p * 4294967295 + (r + 4294967295) := by rw [h2, Nat.add_mul, Nat.one_mul, Nat.add_assoc, Nat.add_comm r]
  rw [Nat.add_sub_cancel]
  exact ⟨h4, ⟨by omega, h5, by omega⟩⟩
theorem div_exit {u v Q R q r : Nat} (hu : u < 18446744073709551608) (hv : v < 4294967296) (hQ : u * 4294967296 + v = Q * 18446744073709551608 + R) (hR : R < 18446744073709551608) (h : DivI u v Q q r) (ht2 : ¬ 4294967296 * r + v < q * 4294967288) :
    q = Q := by
  obtain ⟨h1, h2, h3⟩ := h
  omega
theorem div_break {u v Q R q r : Nat} (hu : u < 18446744073709551608) (hv : v < 4294967296) (hQ : u * 4294967296 + v = Q * 18446744073709551608 + R) (hR : R < 18446744073709551608) (h : DivI u v Q q r) (hr : 4294967296 ≤ r) :
    q = Q := by
  obtain ⟨h1, h2, h3⟩ := h
  omega
theorem div_fin {U Q R2 : Nat} (h : U * 8 = Q * 18446744073709551608 + R2) (h2 : R2 < 18446744073709551608) : R2 / 8 = U % 2305843009213693951 := by omega
theorem div_all {hi lo u v x q1 R q0 R2 U : Nat} (hh : hi < 2305843009213693951) (hl : lo < 18446744073709551616) (hu : u = hi * 8 + lo / 2305843009213693952) (hv : v = lo * 8 % 18446744073709551616 / 4294967296) (hx : x = lo * 8 % 18446744073709551616 % 4294967296)
    (e1 : u * 4294967296 + v = q1 * 18446744073709551608 + R) (e3 : R * 4294967296 + x = q0 * 18446744073709551608 + R2) (e4 : R2 < 18446744073709551608) (hU : U = hi * 18446744073709551616 + lo) : R2 / 8 = U % 2305843009213693951 := by
  refine div_fin (Q := q1 * 4294967296 + q0) ?_ e4
  omega
end
section
open Go.RowKit

theorem maskN (a : Nat) (ha : a < 18446744073709551616) : bits .and .u64 (a : Int) 4294967295 = ((a % 4294967296 : Nat) : Int) := by
  have h := bits_and_u64_nat a 4294967295 ha (by omega)
  have e : a &&& 4294967295 = a % 4294967296 := Nat.and_two_pow_sub_one_eq_mod a 32
  rw [e] at h
  exact h
theorem divN (a : Nat) : (a : Int) / 4294967296 = ((a / 4294967296 : Nat) : Int) := by omega
theorem mulN (a b : Nat) : (a : Int) * (b : Int) = ((a * b : Nat) : Int) := (Int.natCast_mul a b).symm
theorem addN (a b : Nat) : (a : Int) + (b : Int) = ((a + b : Nat) : Int) := (Int.natCast_add a b).symm
theorem wrapN (a : Nat) (ha : a < 18446744073709551616) : IntKind.u64.wrap (a : Int) = (a : Int) := by rw [IntKind.wrap_u64]; omega
theorem wrapM (a : Nat) : IntKind.u64.wrap (a : Int) = ((a % 18446744073709551616 : Nat) : Int) := by rw [IntKind.wrap_u64]; omega

set_option maxHeartbeats 1000000 in
theorem mul64_any (x y : Nat) (hx : x < 18446744073709551616) (hy : y < 18446744073709551616) (w : World) :
    Calls Tryz.prog 178 #[.int .u64 (x : Nat), .int .u64 (y : Nat)] w fun e w' => e = .returned (.tuple #[.int .u64 ((x * y / 18446744073709551616 : Nat) : Int), .int .u64 ((x * y % 18446744073709551616 : Nat) : Int)]) ∧ w = w' := by
  obtain ⟨bd, bt, bw, hhi⟩ := Lib.mul64_hi x y hx hy
  have ba := Lib.half_mul_le (a := x / 4294967296) (b := y / 4294967296) (by omega) (by omega)
  have bb := Lib.half_mul_le (a := x / 4294967296) (b := y % 4294967296) (by omega) (by omega)
  have bc := Lib.half_mul_le (a := x % 4294967296) (b := y / 4294967296) (by omega) (by omega)
  have ba' : x / 4294967296 * (y / 4294967296) < 18446744073709551616 := by omega
  have bb' : x / 4294967296 * (y % 4294967296) < 18446744073709551616 := by omega
  have bc' : x % 4294967296 * (y / 4294967296) < 18446744073709551616 := by omega
  have bh1 : x / 4294967296 * (y / 4294967296) + (x / 4294967296 * (y % 4294967296) + x % 4294967296 * (y % 4294967296) / 4294967296) / 4294967296 < 18446744073709551616 := by omega
  have bh : x / 4294967296 * (y / 4294967296) + (x / 4294967296 * (y % 4294967296) + x % 4294967296 * (y % 4294967296) / 4294967296) / 4294967296 + ((x / 4294967296 * (y % 4294967296) + x % 4294967296 * (y % 4294967296) / 4294967296) % 4294967296 + x % 4294967296 * (y / 4294967296)) / 4294967296 < 18446744073709551616 := by omega
  go_enter Tryz.func178, Tryz.ntmps178
  go_wp2
  simp only [maskN x hx, maskN y hy, divN, mulN, addN, wrapN _ bd, wrapN _ bb', wrapN _ bt, maskN _ bt, wrapN _ bc', wrapN _ bw, wrapN _ ba', wrapN _ bh1, wrapN _ bh, wrapM (x * y)]
  rw [hhi]
  go_ret2
  exact ⟨rfl, rfl⟩

theorem un32_eq {hi lo : Nat} (hh : hi < 2305843009213693951) (hl : lo < 18446744073709551616) : bits .or .u64 ((hi : Int) * 8) ((lo : Int) / 2305843009213693952) = ((hi * 8 + lo / 2305843009213693952 : Nat) : Int) := by
  have e1 : (hi : Int) * 8 = ((hi * 8 : Nat) : Int) := by omega
  have e2 : (lo : Int) / 2305843009213693952 = ((lo / 2305843009213693952 : Nat) : Int) := by omega
  rw [e1, e2, or64 _ _ (by omega) (by omega)]
  have h := Nat.shiftLeft_add_eq_or_of_lt (a := hi) (b := lo / 2305843009213693952) (i := 3) (by omega)
  rw [Nat.shiftLeft_eq] at h
  rw [show (2 : Nat) ^ 3 = 8 from rfl] at h
  rw [h]
theorem dv1 : bits .and .u64 18446744073709551608 4294967295 = 4294967288 := by decide +kernel
theorem dv2 {z lo : Nat} (hz : z = lo * 8 % 18446744073709551616) : IntKind.u64.wrap ((lo : Int) * 8) = (z : Int) := by rw [IntKind.wrap_u64]; omega
theorem dv3 {u q r : Nat} (hr : u = q * 4294967295 + r) (h : r < 4294967295) : (u : Int).tdiv 4294967295 = (q : Int) := by rw [Int.tdiv_eq_ediv_of_nonneg (Int.natCast_nonneg u)]; omega
theorem dv4 {u q r : Nat} (hu : u < 18446744073709551608) (hr : u = q * 4294967295 + r) (h : r < 4294967295) : IntKind.u64.wrap (q : Int) = (q : Int) := wrapN q (by omega)
theorem dv5 {u q r : Nat} (hu : u < 18446744073709551608) (hr : u = q * 4294967295 + r) (h : r < 4294967295) : IntKind.u64.wrap ((u : Int) - IntKind.u64.wrap ((q : Int) * 4294967295)) = (r : Int) := by rw [IntKind.wrap_u64, IntKind.wrap_u64]; omega
theorem dv6 {u v Q R : Nat} (hR : u * 4294967296 + v = Q * 18446744073709551608 + R) (h : R < 18446744073709551608) : IntKind.u64.wrap (IntKind.u64.wrap (IntKind.u64.wrap ((u : Int) * 4294967296) + (v : Int)) - IntKind.u64.wrap ((Q : Int) * 18446744073709551608)) = (R : Int) := by
  rw [IntKind.wrap_u64, IntKind.wrap_u64, IntKind.wrap_u64, IntKind.wrap_u64]; omega
structure DvG (x R q r Q R2 : Nat) : Prop where
  hr : R = q * 4294967295 + r
  hr1 : r < 4294967295
  hR : R * 4294967296 + x = Q * 18446744073709551608 + R2
  hR8 : R2 < 18446744073709551608
theorem dv_ex2 (x R : Nat) : ∃ q r Q R2, DvG x R q r Q R2 := by
  obtain ⟨q, r, hr, hr1⟩ := quot_ R 4294967295 (Nat.zero_lt_succ _)
  obtain ⟨Q, R2, hR, hR8⟩ := quot_ (R * 4294967296 + x) 18446744073709551608 (Nat.zero_lt_succ _)
  exact ⟨q, r, Q, R2, hr, hr1, hR, hR8⟩
structure DvF (hi lo u z v x q r Q R : Nat) : Prop where
  hu : u = hi * 8 + lo / 2305843009213693952
  hz : z = lo * 8 % 18446744073709551616
  hv : v = z / 4294967296
  hx : x = z % 4294967296
  hr : u = q * 4294967295 + r
  hr1 : r < 4294967295
  hR : u * 4294967296 + v = Q * 18446744073709551608 + R
  hR8 : R < 18446744073709551608
  hu8 : u < 18446744073709551608
  hv32 : v < 4294967296
  hx32 : x < 4294967296
theorem dv_ex {hi lo : Nat} (hh : hi < 2305843009213693951) (hl : lo < 18446744073709551616) : ∃ u z v x q r Q R, DvF hi lo u z v x q r Q R := by
  obtain ⟨u, hu⟩ : ∃ u, u = hi * 8 + lo / 2305843009213693952 := ⟨_, rfl⟩
  obtain ⟨z, hz⟩ : ∃ z, z = lo * 8 % 18446744073709551616 := ⟨_, rfl⟩
  obtain ⟨v, hv⟩ : ∃ v, v = z / 4294967296 := ⟨_, rfl⟩
  obtain ⟨x, hx⟩ : ∃ x, x = z % 4294967296 := ⟨_, rfl⟩
  obtain ⟨q, r, hr, hr1⟩ := quot_ u 4294967295 (Nat.zero_lt_succ _)
  obtain ⟨Q, R, hR, hR8⟩ := quot_ (u * 4294967296 + v) 18446744073709551608 (Nat.zero_lt_succ _)
  exact ⟨u, z, v, x, q, r, Q, R, hu, hz, hv, hx, hr, hr1, hR, hR8, by omega, by omega, by omega⟩
def DivPost (w : World) (r : Nat) (en : Ending) (w' : World) : Prop := (∃ x, w' = over w x) ∧ ∃ q : Int, en = .returned (.tuple #[.int .u64 q, .int .u64 (r : Nat)])
theorem DivPost.mk {w w' : World} {q v : Int} {r : Nat} (ho : ∃ x, w' = over w x) (hv : v = ((r : Nat) : Int)) : DivPost w r (.returned (.tuple #[.int .u64 q, .int .u64 v])) w' := ⟨ho, q, by rw [hv]⟩
set_option maxRecDepth 100000 in
set_option maxHeartbeats 2000000 in
theorem div64_zero (lo : Nat) (hl : lo < 18446744073709551616) (w : World) :
    Calls Tryz.prog 187 #[.int .u64 0, .int .u64 (lo : Nat), .int .u64 2305843009213693951] w (DivPost w (lo % 2305843009213693951)) := by
  go_enter Tryz.func187, Tryz.ntmps187
  go_wp2
  refine wp_region_over (by kernel_rfl) (by kernel_rfl) ?_
  repeat (go_big_quiet_step ((fail)))
  refine wpQuiet_nil ?_
  intro _ hw'
  obtain ⟨nq, rfl⟩ := hw'
  go_wp2
  go_ret2
  exact ⟨ovA, (lo : Int) / 2305843009213693951, rfl⟩
set_option maxRecDepth 100000 in
set_option maxHeartbeats 2000000 in
theorem div64_more (hi lo : Nat) (hh : hi < 2305843009213693951) (hl : lo < 18446744073709551616) (h0 : hi ≠ 0) (w : World) :
    Calls Tryz.prog 187 #[.int .u64 (hi : Nat), .int .u64 (lo : Nat), .int .u64 2305843009213693951] w (DivPost w ((hi * 18446744073709551616 + lo) % 2305843009213693951)) := by
  have hle : ¬ (2305843009213693951 : Int) ≤ (hi : Int) := by omega
  have h0' : ((hi : Int) == 0) = false := by rw [beq_eq_false_iff_ne]; omega
  obtain ⟨u, z, v, x, q, r, Q, R, h⟩ := dv_ex hh hl
  have HD := hid h
  have HL : Hid (∀ W, Calls Tryz.prog 184 #[.int .u64 2305843009213693951] W fun e w' => e = .returned (.int .i64 3) ∧ W = w') := hid (fun W => by
    have h := lz_any 2305843009213693951 (by decide) W
    rw [show lz 2305843009213693951 = 3 by decide +kernel] at h
    exact h)
  have hz64 : z < 18446744073709551616 := by have := h.hz; omega
  have hA := dv1
  have hor := un32_eq hh hl
  rw [← h.hu] at hor
  have hwz := dv2 h.hz
  have hdv : (z : Int) / 4294967296 = (v : Int) := by rw [divN, ← h.hv]
  have hmx : bits .and .u64 (z : Int) 4294967295 = (x : Int) := by rw [maskN z hz64, ← h.hx]
  have hdq := dv3 h.hr h.hr1
  have hwq := dv4 h.hu8 h.hr h.hr1
  have hwr := dv5 h.hu8 h.hr h.hr1
  have HS := hid (div_start h.hu8 h.hv32 h.hR h.hr h.hr1)
  clear h
  go_enter Tryz.func187, Tryz.ntmps187
  go_wp2_with (go_at_call 184; (with_reducible refine (HL.out _).mono ?_); rintro _ _ ⟨rfl, rfl⟩)
  clear hA hor hwz hdv hmx hdq hwq hwr hle
  have HH := hid h0'
  clear h0'
  obtain ⟨q2, r2, Q2, R2, h2⟩ := dv_ex2 x R
  have HG := hid h2
  have HS2 := hid (div_start HD.out.hR8 HD.out.hx32 h2.hR h2.hr h2.hr1)
  have hE1 := hid (dv6 HD.out.hR HD.out.hR8)
  have hE2 := hid (dv6 h2.hR h2.hR8)
  have hE3 := hid (dv3 h2.hr h2.hr1)
  have hE4 := hid (dv4 HD.out.hR8 h2.hr h2.hr1)
  have hE5 := hid (dv5 HD.out.hR8 h2.hr h2.hr1)
  have hFin := hid (div_all hh hl HD.out.hu (by rw [← HD.out.hz]; exact HD.out.hv) (by rw [← HD.out.hz]; exact HD.out.hx) HD.out.hR h2.hR h2.hR8 rfl)
  clear h2
  go_loopw [15, 16] (fun a b wr => ∃ (n m : Nat), a = .int .u64 (n : Nat) ∧ b = .int .u64 (m : Nat) ∧ Hid (DivI u v Q n m) ∧ m < 4294967296 ∧ n ≤ 4294967297 ∧ Ov w wr) (fun a _ _ => (intOf a).toNat)
  case atStart => exact ⟨q, r, rfl, rfl, HS, by have := HD.out.hr1; omega, HS.out.le, ovA⟩
  case round =>
    obtain ⟨n, m, rfl, rfl, HI, hm, hn, ⟨e0, rfl⟩⟩ := hrel
    have hv32 := HD.out.hv32
    obtain ⟨m', hm'⟩ : ∃ m', m' = m + 4294967295 := ⟨_, rfl⟩
    have hadd : (m : Int) + 4294967295 = (m' : Int) := by omega
    have hag := fun ht => div_again HD.out.hu8 hv32 HD.out.hR HD.out.hR8 HI.out hm ht
    rw [← hm'] at hag
    have HAG := hid hag
    have HM := hid hm'
    clear hag hm'
    by_cases ht : 4294967296 ≤ n
    · have ht' : (4294967296 : Int) ≤ (n : Int) := by omega
      have h2 := HAG.out (.inl ht)
      have H2 := hid h2.2
      obtain ⟨n', hn'⟩ : ∃ n', n = n' + 1 := ⟨n - 1, by omega⟩
      have hsub : (n : Int) - 1 = (n' : Int) := by omega
      have HN := hid hn'
      have hnn : n - 1 = n' := by omega
      rw [hnn] at H2
      clear h2 hn' hnn
      by_cases hb : 4294967296 ≤ m'
      · have hb' : (4294967296 : Int) ≤ (m' : Int) := by omega
        obtain rfl : n' = Q := div_break HD.out.hu8 hv32 HD.out.hR HD.out.hR8 H2.out hb
        have e1 := hE1.out
        have e3 := hE3.out
        have e4 := hE4.out
        have e5 := hE5.out
        go_wp2_with fail
        clear e1 e3 e4 e5
        go_loopw [18, 16] (fun a b wr => ∃ (n m : Nat), a = .int .u64 (n : Nat) ∧ b = .int .u64 (m : Nat) ∧ Hid (DivI R x Q2 n m) ∧ m < 4294967296 ∧ n ≤ 4294967297 ∧ Ov w wr) (fun a _ _ => (intOf a).toNat)
        case atStart => exact ⟨q2, r2, rfl, rfl, HS2, by have := HG.out.hr1; omega, HS2.out.le, ovA⟩
        case round =>
          obtain ⟨k, j, rfl, rfl, HI2, hj, hk, ⟨e9, rfl⟩⟩ := hrel
          clear ht'
          have hx32 := HD.out.hx32
          obtain ⟨j', hj'⟩ : ∃ j', j' = j + 4294967295 := ⟨_, rfl⟩
          have hadd2 : (j : Int) + 4294967295 = (j' : Int) := by omega
          have hag := fun ht => div_again HD.out.hR8 hx32 HG.out.hR HG.out.hR8 HI2.out hj ht
          rw [← hj'] at hag
          have HAG2 := hid hag
          clear hag hj'
          by_cases hs : 4294967296 ≤ k
          · have hs' : (4294967296 : Int) ≤ (k : Int) := by omega
            have h2 := HAG2.out (.inl hs)
            have H3 := hid h2.2
            obtain ⟨k', hk'⟩ : ∃ k', k = k' + 1 := ⟨k - 1, by omega⟩
            have hsub2 : (k : Int) - 1 = (k' : Int) := by omega
            have HN2 := hid hk'
            have hkk : k - 1 = k' := by omega
            rw [hkk] at H3
            clear h2 hk' hkk
            by_cases hb2 : 4294967296 ≤ j'
            · have hb2' : (4294967296 : Int) ≤ (j' : Int) := by omega
              obtain rfl : k' = Q2 := div_break HD.out.hR8 hx32 HG.out.hR HG.out.hR8 H3.out hb2
              have e2 := hE2.out
              go_wp2_with fail
              go_ret2
              exact DivPost.mk ovA (by rw [← hFin.out]; omega)
            · have hb2' : ¬ (4294967296 : Int) ≤ (j' : Int) := by omega
              go_wp2_with fail
              go_roundw
              case rel => exact ⟨k', j', rfl, rfl, H3, by omega, H3.out.le, ovA⟩
              case measure => have := HN2.out; simp [intOf]; omega
          · have hs' : ¬ (4294967296 : Int) ≤ (k : Int) := by omega
            by_cases hs2 : 4294967296 * j + x < k * 4294967288
            · have h2 := HAG2.out (.inr hs2)
              have H3 := hid h2.2
              obtain ⟨k', hk'⟩ : ∃ k', k = k' + 1 := ⟨k - 1, by omega⟩
              have hsub2 : (k : Int) - 1 = (k' : Int) := by omega
              have HN2 := hid hk'
              have hkk : k - 1 = k' := by omega
              rw [hkk] at H3
              clear h2 hk' hkk
              by_cases hb2 : 4294967296 ≤ j'
              · have hb2' : (4294967296 : Int) ≤ (j' : Int) := by omega
                obtain rfl : k' = Q2 := div_break HD.out.hR8 hx32 HG.out.hR HG.out.hR8 H3.out hb2
                have e2 := hE2.out
                go_wp2_with fail
                go_ret2
                exact DivPost.mk ovA (by rw [← hFin.out]; omega)
              · have hb2' : ¬ (4294967296 : Int) ≤ (j' : Int) := by omega
                go_wp2_with fail
                go_roundw
                case rel => exact ⟨k', j', rfl, rfl, H3, by omega, H3.out.le, ovA⟩
                case measure => have := HN2.out; simp [intOf]; omega
            · obtain rfl : k = Q2 := div_exit HD.out.hR8 hx32 HG.out.hR HG.out.hR8 HI2.out hs2
              have e2 := hE2.out
              go_wp2_with fail
              go_ret2
              exact DivPost.mk ovA (by rw [← hFin.out]; omega)
      · have hb' : ¬ (4294967296 : Int) ≤ (m' : Int) := by omega
        go_wp2_with fail
        go_roundw
        case rel => exact ⟨n', m', rfl, rfl, H2, by omega, H2.out.le, ovA⟩
        case measure => have := HN.out; simp [intOf]; omega
    · have ht' : ¬ (4294967296 : Int) ≤ (n : Int) := by omega
      by_cases ht2 : 4294967296 * m + v < n * 4294967288
      · have h2 := HAG.out (.inr ht2)
        have H2 := hid h2.2
        obtain ⟨n', hn'⟩ : ∃ n', n = n' + 1 := ⟨n - 1, by omega⟩
        have hsub : (n : Int) - 1 = (n' : Int) := by omega
        have HN := hid hn'
        have hnn : n - 1 = n' := by omega
        rw [hnn] at H2
        clear h2 hn' hnn
        by_cases hb : 4294967296 ≤ m'
        · have hb' : (4294967296 : Int) ≤ (m' : Int) := by omega
          obtain rfl : n' = Q := div_break HD.out.hu8 hv32 HD.out.hR HD.out.hR8 H2.out hb
          have e1 := hE1.out
          have e3 := hE3.out
          have e4 := hE4.out
          have e5 := hE5.out
          go_wp2_with fail
          clear e1 e3 e4 e5
          go_loopw [18, 16] (fun a b wr => ∃ (n m : Nat), a = .int .u64 (n : Nat) ∧ b = .int .u64 (m : Nat) ∧ Hid (DivI R x Q2 n m) ∧ m < 4294967296 ∧ n ≤ 4294967297 ∧ Ov w wr) (fun a _ _ => (intOf a).toNat)
          case atStart => exact ⟨q2, r2, rfl, rfl, HS2, by have := HG.out.hr1; omega, HS2.out.le, ovA⟩
          case round =>
            obtain ⟨k, j, rfl, rfl, HI2, hj, hk, ⟨e9, rfl⟩⟩ := hrel
            clear ht'
            have hx32 := HD.out.hx32
            obtain ⟨j', hj'⟩ : ∃ j', j' = j + 4294967295 := ⟨_, rfl⟩
            have hadd2 : (j : Int) + 4294967295 = (j' : Int) := by omega
            have hag := fun ht => div_again HD.out.hR8 hx32 HG.out.hR HG.out.hR8 HI2.out hj ht
            rw [← hj'] at hag
            have HAG2 := hid hag
            clear hag hj'
            by_cases hs : 4294967296 ≤ k
            · have hs' : (4294967296 : Int) ≤ (k : Int) := by omega
              have h2 := HAG2.out (.inl hs)
              have H3 := hid h2.2
              obtain ⟨k', hk'⟩ : ∃ k', k = k' + 1 := ⟨k - 1, by omega⟩
              have hsub2 : (k : Int) - 1 = (k' : Int) := by omega
              have HN2 := hid hk'
              have hkk : k - 1 = k' := by omega
              rw [hkk] at H3
              clear h2 hk' hkk
              by_cases hb2 : 4294967296 ≤ j'
              · have hb2' : (4294967296 : Int) ≤ (j' : Int) := by omega
                obtain rfl : k' = Q2 := div_break HD.out.hR8 hx32 HG.out.hR HG.out.hR8 H3.out hb2
                have e2 := hE2.out
                go_wp2_with fail
                go_ret2
                exact DivPost.mk ovA (by rw [← hFin.out]; omega)
              · have hb2' : ¬ (4294967296 : Int) ≤ (j' : Int) := by omega
                go_wp2_with fail
                go_roundw
                case rel => exact ⟨k', j', rfl, rfl, H3, by omega, H3.out.le, ovA⟩
                case measure => have := HN2.out; simp [intOf]; omega
            · have hs' : ¬ (4294967296 : Int) ≤ (k : Int) := by omega
              by_cases hs2 : 4294967296 * j + x < k * 4294967288
              · have h2 := HAG2.out (.inr hs2)
                have H3 := hid h2.2
                obtain ⟨k', hk'⟩ : ∃ k', k = k' + 1 := ⟨k - 1, by omega⟩
                have hsub2 : (k : Int) - 1 = (k' : Int) := by omega
                have HN2 := hid hk'
                have hkk : k - 1 = k' := by omega
                rw [hkk] at H3
                clear h2 hk' hkk
                by_cases hb2 : 4294967296 ≤ j'
                · have hb2' : (4294967296 : Int) ≤ (j' : Int) := by omega
                  obtain rfl : k' = Q2 := div_break HD.out.hR8 hx32 HG.out.hR HG.out.hR8 H3.out hb2
                  have e2 := hE2.out
                  go_wp2_with fail
                  go_ret2
                  exact DivPost.mk ovA (by rw [← hFin.out]; omega)
                · have hb2' : ¬ (4294967296 : Int) ≤ (j' : Int) := by omega
                  go_wp2_with fail
                  go_roundw
                  case rel => exact ⟨k', j', rfl, rfl, H3, by omega, H3.out.le, ovA⟩
                  case measure => have := HN2.out; simp [intOf]; omega
              · obtain rfl : k = Q2 := div_exit HD.out.hR8 hx32 HG.out.hR HG.out.hR8 HI2.out hs2
                have e2 := hE2.out
                go_wp2_with fail
                go_ret2
                exact DivPost.mk ovA (by rw [← hFin.out]; omega)
        · have hb' : ¬ (4294967296 : Int) ≤ (m' : Int) := by omega
          go_wp2_with fail
          go_roundw
          case rel => exact ⟨n', m', rfl, rfl, H2, by omega, H2.out.le, ovA⟩
          case measure => have := HN.out; simp [intOf]; omega
      · obtain rfl : n = Q := div_exit HD.out.hu8 hv32 HD.out.hR HD.out.hR8 HI.out ht2
        have e1 := hE1.out
        have e3 := hE3.out
        have e4 := hE4.out
        have e5 := hE5.out
        go_wp2_with fail
        clear e1 e3 e4 e5
        go_loopw [18, 16] (fun a b wr => ∃ (n m : Nat), a = .int .u64 (n : Nat) ∧ b = .int .u64 (m : Nat) ∧ Hid (DivI R x Q2 n m) ∧ m < 4294967296 ∧ n ≤ 4294967297 ∧ Ov w wr) (fun a _ _ => (intOf a).toNat)
        case atStart => exact ⟨q2, r2, rfl, rfl, HS2, by have := HG.out.hr1; omega, HS2.out.le, ovA⟩
        case round =>
          obtain ⟨k, j, rfl, rfl, HI2, hj, hk, ⟨e9, rfl⟩⟩ := hrel
          clear ht'
          have hx32 := HD.out.hx32
          obtain ⟨j', hj'⟩ : ∃ j', j' = j + 4294967295 := ⟨_, rfl⟩
          have hadd2 : (j : Int) + 4294967295 = (j' : Int) := by omega
          have hag := fun ht => div_again HD.out.hR8 hx32 HG.out.hR HG.out.hR8 HI2.out hj ht
          rw [← hj'] at hag
          have HAG2 := hid hag
          clear hag hj'
          by_cases hs : 4294967296 ≤ k
          · have hs' : (4294967296 : Int) ≤ (k : Int) := by omega
            have h2 := HAG2.out (.inl hs)
            have H3 := hid h2.2
            obtain ⟨k', hk'⟩ : ∃ k', k = k' + 1 := ⟨k - 1, by omega⟩
            have hsub2 : (k : Int) - 1 = (k' : Int) := by omega
            have HN2 := hid hk'
            have hkk : k - 1 = k' := by omega
            rw [hkk] at H3
            clear h2 hk' hkk
            by_cases hb2 : 4294967296 ≤ j'
            · have hb2' : (4294967296 : Int) ≤ (j' : Int) := by omega
              obtain rfl : k' = Q2 := div_break HD.out.hR8 hx32 HG.out.hR HG.out.hR8 H3.out hb2
              have e2 := hE2.out
              go_wp2_with fail
              go_ret2
              exact DivPost.mk ovA (by rw [← hFin.out]; omega)
            · have hb2' : ¬ (4294967296 : Int) ≤ (j' : Int) := by omega
              go_wp2_with fail
              go_roundw
              case rel => exact ⟨k', j', rfl, rfl, H3, by omega, H3.out.le, ovA⟩
              case measure => have := HN2.out; simp [intOf]; omega
          · have hs' : ¬ (4294967296 : Int) ≤ (k : Int) := by omega
            by_cases hs2 : 4294967296 * j + x < k * 4294967288
            · have h2 := HAG2.out (.inr hs2)
              have H3 := hid h2.2
              obtain ⟨k', hk'⟩ : ∃ k', k = k' + 1 := ⟨k - 1, by omega⟩
              have hsub2 : (k : Int) - 1 = (k' : Int) := by omega
              have HN2 := hid hk'
              have hkk : k - 1 = k' := by omega
              rw [hkk] at H3
              clear h2 hk' hkk
              by_cases hb2 : 4294967296 ≤ j'
              · have hb2' : (4294967296 : Int) ≤ (j' : Int) := by omega
                obtain rfl : k' = Q2 := div_break HD.out.hR8 hx32 HG.out.hR HG.out.hR8 H3.out hb2
                have e2 := hE2.out
                go_wp2_with fail
                go_ret2
                exact DivPost.mk ovA (by rw [← hFin.out]; omega)
              · have hb2' : ¬ (4294967296 : Int) ≤ (j' : Int) := by omega
                go_wp2_with fail
                go_roundw
                case rel => exact ⟨k', j', rfl, rfl, H3, by omega, H3.out.le, ovA⟩
                case measure => have := HN2.out; simp [intOf]; omega
            · obtain rfl : k = Q2 := div_exit HD.out.hR8 hx32 HG.out.hR HG.out.hR8 HI2.out hs2
              have e2 := hE2.out
              go_wp2_with fail
              go_ret2
              exact DivPost.mk ovA (by rw [← hFin.out]; omega)
theorem div64_any (hi lo : Nat) (hh : hi < 2305843009213693951) (hl : lo < 18446744073709551616) (w : World) :
    Calls Tryz.prog 187 #[.int .u64 (hi : Nat), .int .u64 (lo : Nat), .int .u64 2305843009213693951] w (DivPost w ((hi * 18446744073709551616 + lo) % 2305843009213693951)) := by
  by_cases h0 : hi = 0
  · subst h0
    rw [Nat.zero_mul, Nat.zero_add]
    exact div64_zero lo hl w
  · exact div64_more hi lo hh hl h0 w
set_option maxHeartbeats 1000000 in
theorem fit_any (hi lo : Nat) (hh : hi < 18446744073709551616) (hl : lo < 18446744073709551616) (w : World) :
    Calls Tryz.prog 177 #[.int .u64 (hi : Nat), .int .u64 (lo : Nat)] w (Ret w (.int .u64 (((hi * 18446744073709551616 + lo) % 2305843009213693951 : Nat) : Int))) := by
  obtain ⟨h, hq⟩ : ∃ h, h = hi % 2305843009213693951 := ⟨_, rfl⟩
  have hq1 : (hi : Int).tmod 2305843009213693951 = (h : Int) := by rw [Int.tmod_eq_emod_of_nonneg (Int.natCast_nonneg hi)]; omega
  have hq2 : h < 2305843009213693951 := by omega
  have HC := hid (fun W => div64_any h lo hq2 hl W)
  have he : (h * 18446744073709551616 + lo) % 2305843009213693951 = (hi * 18446744073709551616 + lo) % 2305843009213693951 := by omega
  rw [he] at HC
  obtain ⟨r, hr⟩ : ∃ r, (hi * 18446744073709551616 + lo) % 2305843009213693951 = r := ⟨_, rfl⟩
  rw [hr] at HC ⊢
  clear hq he hr
  go_enter Tryz.func177, Tryz.ntmps177
  go_wp2_with (go_at_call 187; (with_reducible refine (HC.out _).mono ?_); rintro _ _ ⟨⟨e1, rfl⟩, q1, rfl⟩)
  go_ret
  exact ⟨ovA, rfl⟩
set_option maxHeartbeats 1000000 in
theorem times_any (a b : Nat) (ha : a < 18446744073709551616) (hb : b < 18446744073709551616) (w : World) :
    Calls Tryz.prog 157 #[.int .u64 (a : Nat), .int .u64 (b : Nat)] w (Ret w (.int .u64 ((a * b % 2305843009213693951 : Nat) : Int))) := by
  have hM := hid (fun W => mul64_any a b ha hb W)
  have hab : a * b < 18446744073709551616 * 18446744073709551616 := Nat.mul_lt_mul'' ha hb
  obtain ⟨P, hP⟩ : ∃ P, a * b = P := ⟨_, rfl⟩
  rw [hP] at hM hab ⊢
  have HF := hid (fun W => fit_any (P / 18446744073709551616) (P % 18446744073709551616) (by omega) (by omega) W)
  rw [show P / 18446744073709551616 * 18446744073709551616 + P % 18446744073709551616 = P by omega] at HF
  obtain ⟨r, hr⟩ : ∃ r, P % 2305843009213693951 = r := ⟨_, rfl⟩
  rw [hr] at HF ⊢
  clear hP hr
  generalize P / 18446744073709551616 = hi at *
  generalize P % 18446744073709551616 = lo at *
  go_enter Tryz.func157, Tryz.ntmps157
  go_wp2_with (first | (go_at_call 178; (with_reducible refine (hM.out _).mono ?_); rintro _ _ ⟨rfl, rfl⟩) | (go_at_call 177; (with_reducible refine (HF.out _).mono ?_); rintro _ _ ⟨⟨e1, rfl⟩, rfl⟩))
  go_ret
  exact ⟨ovA, rfl⟩
set_option maxHeartbeats 1000000 in
theorem plus_any (a b : Nat) (ha : a < 2305843009213693951) (hb : b < 2305843009213693951) (w : World) :
    Calls Tryz.prog 156 #[.int .u64 (a : Nat), .int .u64 (b : Nat)] w (Ret w (.int .u64 (((a + b) % 2305843009213693951 : Nat) : Int))) := by
  have e1 : (a : Int).tmod 2305843009213693951 = (a : Int) := by rw [Int.tmod_eq_emod_of_nonneg (Int.natCast_nonneg a)]; omega
  have e2 : (b : Int).tmod 2305843009213693951 = (b : Int) := by rw [Int.tmod_eq_emod_of_nonneg (Int.natCast_nonneg b)]; omega
  obtain ⟨r, hr⟩ : ∃ r, (a + b) % 2305843009213693951 = r := ⟨_, rfl⟩
  have e3 : ((a : Int) + (b : Int)).tmod 2305843009213693951 = (r : Int) := by rw [Int.tmod_eq_emod_of_nonneg (by omega)]; omega
  rw [hr]
  clear hr
  go_enter Tryz.func156, Tryz.ntmps156
  go_wp2
  go_ret
  exact ⟨ovA, rfl⟩
end
section
open Go.RowKit

theorem next_eq (s : Nat) (b : Bool) : (s * 1000000007 % 2305843009213693951 + (1 + b.toNat)) % 2305843009213693951 = nextR s b := by
  unfold nextR
  rw [Nat.mod_add_mod]
set_option maxHeartbeats 1000000 in
theorem next_any (s : Nat) (hs : s < 18446744073709551616) (b : Bool) (w : World) :
    Calls Tryz.prog 125 #[.int .u64 (s : Nat), .bool b] w (Ret w (.int .u64 (nextR s b : Nat))) := by
  have HT := hid (fun W => times_any s 1000000007 hs (by decide) W)
  have hn := next_eq s b
  obtain ⟨t, ht⟩ : ∃ t, s * 1000000007 % 2305843009213693951 = t := ⟨_, rfl⟩
  have htl : t < 2305843009213693951 := by rw [← ht]; exact Nat.mod_lt _ (Nat.zero_lt_succ _)
  rw [ht] at HT hn
  have HT' : Hid (∀ W, Calls Tryz.prog 157 #[.int .u64 (s : Nat), .int .u64 1000000007] W (Ret W (.int .u64 (t : Nat)))) := HT
  obtain ⟨r, hr⟩ : ∃ r, nextR s b = r := ⟨_, rfl⟩
  rw [hr] at hn ⊢
  clear ht hr HT
  cases b
  · have HP := hid (fun W => plus_any t 1 htl (by decide) W)
    rw [show (t + 1) % 2305843009213693951 = r from hn] at HP
    have HP' : Hid (∀ W, Calls Tryz.prog 156 #[.int .u64 (t : Nat), .int .u64 1] W (Ret W (.int .u64 (r : Nat)))) := HP
    clear hn HP
    go_enter Tryz.func125, Tryz.ntmps125
    go_wp2_with (first | (go_at_call 157; (with_reducible refine (HT'.out _).mono ?_); rintro _ _ ⟨⟨e1, rfl⟩, rfl⟩) | (go_at_call 156; (with_reducible refine (HP'.out _).mono ?_); rintro _ _ ⟨⟨e2, rfl⟩, rfl⟩))
    go_ret
    exact ⟨ovA, rfl⟩
  · have HP := hid (fun W => plus_any t 2 htl (by decide) W)
    rw [show (t + 2) % 2305843009213693951 = r from hn] at HP
    have HP' : Hid (∀ W, Calls Tryz.prog 156 #[.int .u64 (t : Nat), .int .u64 2] W (Ret W (.int .u64 (r : Nat)))) := HP
    clear hn HP
    go_enter Tryz.func125, Tryz.ntmps125
    go_wp2_with (first | (go_at_call 157; (with_reducible refine (HT'.out _).mono ?_); rintro _ _ ⟨⟨e1, rfl⟩, rfl⟩) | (go_at_call 156; (with_reducible refine (HP'.out _).mono ?_); rintro _ _ ⟨⟨e2, rfl⟩, rfl⟩))
    go_ret
    exact ⟨ovA, rfl⟩

theorem bit_ne {b k : Nat} (hb : b < 256) (hk : k < 8) : (bits .and .u8 ((b : Int) / (2 : Int) ^ k) 1 != 0) = b.testBit k := by
  rw [cast_shr, and1_8 _ (shr_lt hb), bit_p hk]
  cases b.testBit k <;> rfl
theorem moreR_take {s : Nat} {l : List Bool} {k : Nat} (h : k < l.length) : moreR s (l.take (k + 1)) = nextR (moreR s (l.take k)) l[k] := by
  have e : l.take (k + 1) = l.take k ++ [l[k]] := by
    rw [List.take_add_one, List.getElem?_eq_getElem h]; rfl
  rw [e, moreR_snoc]
set_option maxRecDepth 100000 in
set_option maxHeartbeats 2000000 in
theorem more_any (s : Nat) (hs : s < 18446744073709551616) (l : List Bool) (hl : l.length ≤ 900000) (a : Option Addr) (cap : Nat) (w : World) (hb : SlB w a cap (pack l)) :
    Calls Tryz.prog 90 #[.int .u64 (s : Nat), bv a (pack l).length cap l.length] w (Ret w (.tuple #[.int .u64 (moreR s l : Nat), .int .u16 0])) := by
  have HS := hid (fun W hW => sound_any (pack l) pack_lt (pack_len_le (by omega)) l.length (by omega) a cap W hW)
  rw [sound_pack] at HS
  have h0 : (s : Int).tmod 2305843009213693951 = (moreR s [] : Nat) := by
    rw [moreR_nil, Int.tmod_eq_emod_of_nonneg (Int.natCast_nonneg s)]; omega
  obtain ⟨s0, hs0⟩ : ∃ s0, moreR s [] = s0 := ⟨_, rfl⟩
  rw [hs0] at h0
  have H0 := hid hs0
  clear hs0
  go_enter Tryz.func90, Tryz.ntmps90
  go_wp2_with (go_at_call 87; (with_reducible refine (HS.out _ (by exact slA hb)).mono ?_); rintro _ _ ⟨⟨e1, rfl⟩, rfl⟩)
  clear h0
  go_loopw [0, 14] (fun s' i wr => ∃ (k : Nat), k ≤ l.length ∧ i = .int .i64 (k : Nat) ∧ s' = .int .u64 (moreR s (l.take k) : Nat) ∧ Ov (over (w.alloc (.cells #[.slice a (pack l).length cap, .int .i64 (l.length : Nat)] 46)) e1) wr) (fun _ i _ => l.length - (intOf i).toNat)
  case atStart => exact ⟨0, Nat.zero_le _, rfl, by rw [List.take_zero, H0.out], ovA⟩
  case round =>
    obtain ⟨k, hk, rfl, rfl, ⟨e0, rfl⟩⟩ := hrel
    by_cases hlt : k < l.length
    · have hq := pack_at hlt
      obtain ⟨b6, o6, rfl, hb6, k0⟩ := hb.at_ hq
      have hlo := pack_lt _ (List.getElem_mem hq)
      have hbit := pack_bit (l := l) (i := k) hq
      have HN := hid (fun W => next_any (moreR s (l.take k)) (by have := moreR_lt s (l.take k); omega) l[k] W)
      have HM := hid (moreR_take (s := s) hlt)
      rw [← HM.out] at HN
      rw [getD_getElem hlt] at hbit
      generalize moreR s (l.take k) = sk at *
      generalize (pack l)[k / 8] = by_ at *
      generalize l[k] = B at *
      have hB := bit_ne (k := 7 - k % 8) hlo (by omega)
      rw [hbit] at hB
      clear hbit
      go_wp2_with (go_at_call 125; (with_reducible refine (HN.out _).mono ?_); rintro _ _ ⟨⟨e2, rfl⟩, rfl⟩)
      go_roundw
      case rel => exact ⟨k + 1, by omega, by go_num, rfl, ovA⟩
      case measure => (simp [intOf]; try omega)
    · obtain rfl : k = l.length := by omega
      rw [List.take_length] at *
      go_wp2_with fail
      go_ret2
      exact ⟨ovA, rfl⟩
set_option maxHeartbeats 1000000 in
theorem rollOf_any (l : List Bool) (hl : l.length ≤ 900000) (a : Option Addr) (cap : Nat) (w : World) (hb : SlB w a cap (pack l)) :
    Calls Tryz.prog 51 #[bv a (pack l).length cap l.length] w (Ret w (.tuple #[.int .u64 (moreR 0 l : Nat), .int .u16 0])) := by
  have HM : Hid (∀ W, SlB W a cap (pack l) → Calls Tryz.prog 90 #[.int .u64 0, bv a (pack l).length cap l.length] W (Ret W (.tuple #[.int .u64 (moreR 0 l : Nat), .int .u16 0]))) := hid (fun W h => more_any 0 (by decide) l hl a cap W h)
  generalize moreR 0 l = m at *
  go_enter Tryz.func51, Tryz.ntmps51
  go_wp2_with (go_at_call 90; (with_reducible refine (HM.out _ (by exact slA hb)).mono ?_); rintro _ _ ⟨⟨e1, rfl⟩, rfl⟩)
  go_ret2
  exact ⟨ovA, rfl⟩
end
end Go.Proofs.YtnihngljmmbenaaGreatDoor
