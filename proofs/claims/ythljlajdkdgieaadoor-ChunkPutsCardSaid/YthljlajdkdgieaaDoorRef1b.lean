/- Walks: the document's List, Of. -/
import Derived.Test.YthljlajdkdgieaaDoorRef1
namespace Go.Proofs.YthljlajdkdgieaaDoor
set_option linter.unusedVariables false
set_option linter.unusedSimpArgs false
open Go.RowKit

theorem byte_elem : ElemOf Tryd.prog 27 5 1 1 := elemOf (z := .int .u8 0) (by kernel_rfl) (by kernel_rfl) rfl (by decide)
/-- A list of ones and noughts. -/
def tcs (b : Bool) : List Value := [.int .u8 (b.toNat : Nat)]
theorem tcs_len (b : Bool) : (tcs b).length = 1 := rfl
theorem tcs_one (b : Bool) : ∀ u ∈ tcs b, u.oneCell' = true := by intro u hu; simp [tcs] at hu; subst hu; rfl
abbrev SlT (w : World) (a : Option Addr) (cap : Nat) (xs : List Bool) : Prop := Sl 1 tcs w a cap xs
theorem SlT.at_ {w : World} {a : Option Addr} {cap : Nat} {xs : List Bool} (h : SlT w a cap xs) {k : Nat} (hk : k < xs.length) :
    ∃ b off, a = some ⟨b, off, none⟩ ∧ b < w.heap.size ∧ w.cell? ⟨b, off + k, none⟩ = some (.int .u8 (xs[k].toNat : Nat)) := by
  obtain ⟨b, off, rfl, hb, hcell⟩ := h.rec_ k xs[k] (List.getElem?_eq_getElem hk)
  have := hcell 0 _ rfl
  rw [Nat.mul_one] at this
  exact ⟨b, off, rfl, hb, this⟩
abbrev OwnT (base : Nat) (w : World) (v : Value) (l : List Bool) : Prop := Own base 5 1 tcs w v l
abbrev OwnB (base : Nat) (w : World) (v : Value) (l : List Nat) : Prop := Own base 5 1 bcs w v l

theorem getD_getElem {l : List Bool} {i : Nat} (h : i < l.length) : l.getD i false = l[i] := by
  rw [List.getD_eq_getElem?_getD, List.getElem?_eq_getElem h]; rfl
theorem pack_bit {l : List Bool} {i : Nat} (h : i / 8 < (pack l).length) : (pack l)[i / 8].testBit (7 - i % 8) = l.getD i false := by
  rw [pack_get, oct_testBit, decide_eq_true (by omega), Bool.true_and, show 8 * (i / 8) + (7 - (7 - i % 8)) = i by omega]
theorem pack_at {l : List Bool} {i : Nat} (h : i < l.length) : i / 8 < (pack l).length := by rw [pack_length]; unfold nb; omega
theorem pack_len_le {l : List Bool} {n : Nat} (h : l.length ≤ n) : (pack l).length ≤ n := by rw [pack_length]; unfold nb; omega

/-- The i-th bit of sound bits. -/
theorem rbit_l (l : List Bool) (i : Nat) (hi : i < l.length) (hl : l.length ≤ 1000000) (N : Int) (a : Option Addr) (cap : Nat) (w : World) (hs : SlB w a cap (pack l)) :
    Calls Tryd.prog 63 #[bv a (pack l).length cap N, .int .i64 i] w (Ret w (.int .u8 (l[i].toNat : Nat))) := by
  have := rbit_any (pack l) pack_lt i (pack_at hi) (pack_len_le hl) N a cap w hs
  rwa [pack_bit, getD_getElem hi] at this

theorem take_succ_get {α : Type} {l : List α} {k : Nat} (h : k < l.length) : l.take k ++ [l[k]] = l.take (k + 1) := by
  rw [List.take_add_one, List.getElem?_eq_getElem h]; rfl

set_option maxRecDepth 100000 in
set_option maxHeartbeats 1000000 in
theorem rlist_any (l : List Bool) (hl : l.length ≤ 1000000) (a : Option Addr) (cap : Nat) (w : World) (hs : SlB w a cap (pack l)) :
    Calls Tryd.prog 48 #[bv a (pack l).length cap l.length] w (Gives w fun v w' => OwnT w.heap.size w' v l) := by
  have hR := hid (fun k hk W hW => rbit_l l k hk hl l.length a cap W hW)
  go_enter Tryd.func48, Tryd.ntmps48
  go_wp2
  go_loopw [3, 4] (fun o i wr => ∃ (k : Nat), k ≤ l.length ∧ i = .int .i64 k ∧ Ov (w.alloc (.cells #[.slice a (pack l).length cap, .int .i64 l.length] 29)) wr ∧ OwnT (w.alloc (.cells #[.slice a (pack l).length cap, .int .i64 l.length] 29)).heap.size wr o (l.take k)) (fun _ i _ => l.length - (intOf i).toNat)
  case atStart =>
    exact ⟨0, Nat.zero_le _, rfl, (by (try unfold Ov); repeat (first | with_reducible exact ex_over | with_reducible exact over_self _ | with_reducible refine ex_undrew ?_ | with_reducible refine ex_into ?_ _ | with_reducible refine ex_alloc ?_ _ | with_reducible refine ex_drew ?_ | ((with_reducible refine ex_setCell ?_ ?_ _); rotate_left; (first | omega | (focus (simp; done)) | (focus (simp; omega)))) | ((with_reducible refine ex_chg ?_ _ ?_); rotate_left; (first | assumption | (exact Hid.out (by assumption)))) | exact ex_over)), Own.nil _⟩
  case round =>
    obtain ⟨k, hk, rfl, ⟨e, rfl⟩, hown⟩ := hrel
    by_cases hlt : k < l.length
    · have hlt' : (k : Int) < (l.length : Int) := by omega
      have htk : (l.take k).length ≤ 1000000 := by rw [List.length_take]; omega
      go_wp2_with (first | (go_at_call 63; (with_reducible refine (hR.out k hlt _ (by repeat (first | with_reducible exact hs | with_reducible refine Sl.over ?_ _ | with_reducible refine Sl.alloc ?_ _ | with_reducible refine Sl.drew ?_ | exact hs))).mono ?_); rintro _ _ ⟨⟨e1, rfl⟩, rfl⟩) | (at_builtin; refine wpList_append byte_elem tcs_len tcs_one rfl (.tmp 11) (.tmp 15) rfl (B := w.alloc (.cells #[.slice a (pack l).length cap, .int .i64 l.length] 29)) (xs := [l[k]]) hown rfl rfl (by (try unfold Ov); repeat (first | with_reducible exact ex_over | with_reducible exact over_self _ | with_reducible refine ex_undrew ?_ | with_reducible refine ex_into ?_ _ | with_reducible refine ex_alloc ?_ _ | with_reducible refine ex_drew ?_ | ((with_reducible refine ex_setCell ?_ ?_ _); rotate_left; (first | omega | (focus (simp; done)) | (focus (simp; omega)))) | ((with_reducible refine ex_chg ?_ _ ?_); rotate_left; (first | assumption | (exact Hid.out (by assumption)))) | exact ex_over)) (by (try unfold Ov); repeat (first | with_reducible exact ex_over | with_reducible exact over_self _ | with_reducible refine ex_undrew ?_ | with_reducible refine ex_into ?_ _ | with_reducible refine ex_alloc ?_ _ | with_reducible refine ex_drew ?_ | ((with_reducible refine ex_setCell ?_ ?_ _); rotate_left; (first | omega | (focus (simp; done)) | (focus (simp; omega)))) | ((with_reducible refine ex_chg ?_ _ ?_); rotate_left; (first | assumption | (exact Hid.out (by assumption)))) | exact ex_over)) (by first | assumption | (simp; done) | (simp; omega) | omega) (by first | assumption | (simp; done) | (simp; omega) | omega) (by (repeat with_reducible refine Sl.drew ?_); exact Sl.one_new (y := l[k]) (by simp; try omega)) (by simp only [List.length_append, List.length_singleton, List.length_nil]; unfold maxLen; omega) (by simp only [List.length_append, List.length_singleton, List.length_nil]; omega) ?_; intro v' x' hown' _ _))
      go_roundw
      case rel =>
        rw [take_succ_get hlt] at hown'
        exact ⟨k + 1, by omega, by go_num, (by (try unfold Ov); repeat (first | with_reducible exact ex_over | with_reducible exact over_self _ | with_reducible refine ex_undrew ?_ | with_reducible refine ex_into ?_ _ | with_reducible refine ex_alloc ?_ _ | with_reducible refine ex_drew ?_ | ((with_reducible refine ex_setCell ?_ ?_ _); rotate_left; (first | omega | (focus (simp; done)) | (focus (simp; omega)))) | ((with_reducible refine ex_chg ?_ _ ?_); rotate_left; (first | assumption | (exact Hid.out (by assumption)))) | exact ex_over)), hown'⟩
      case measure => simp [intOf]; omega
    · obtain rfl : k = l.length := by omega
      go_wp2
      go_ret
      rw [List.take_length] at hown
      exact ⟨(by (try unfold Ov); repeat (first | with_reducible exact ex_over | with_reducible exact over_self _ | with_reducible refine ex_undrew ?_ | with_reducible refine ex_into ?_ _ | with_reducible refine ex_alloc ?_ _ | with_reducible refine ex_drew ?_ | ((with_reducible refine ex_setCell ?_ ?_ _); rotate_left; (first | omega | (focus (simp; done)) | (focus (simp; omega)))) | ((with_reducible refine ex_chg ?_ _ ?_); rotate_left; (first | assumption | (exact Hid.out (by assumption)))) | exact ex_over)), _, rfl, hown.mono (by simp)⟩

theorem OwnB.open_ {base : Nat} {w : World} {v : Value} {xs : List Nat} (h : OwnB base w v xs) {i : Nat} (hi : i < xs.length) :
    ∃ g cap, v = .slice (some ⟨g, 0, none⟩) xs.length cap ∧ base ≤ g ∧ g < w.heap.size ∧ w.cell? ⟨g, i, none⟩ = some (.int .u8 (xs[i] : Nat)) ∧ w.frozen? ⟨g, i, none⟩ = false := by
  obtain ⟨g, cap, h1, h2, h3, h4, h5⟩ := Own.open_ bcs_len h (by omega)
  have := h4 i xs[i] (List.getElem?_eq_getElem hi) 0 _ rfl
  rw [Nat.mul_one] at this
  exact ⟨g, cap, h1, h2, h3, this, h5 _⟩
theorem OwnB.set {base : Nat} {w : World} {g n cap : Nat} {xs : List Nat} (h : OwnB base w (.slice (some ⟨g, 0, none⟩) n cap) xs) {i : Nat} (hi : i < xs.length) {y : Nat} {u : Value} (hu : u = .int .u8 (y : Nat)) :
    OwnB base (w.setCell ⟨g, i, none⟩ u) (.slice (some ⟨g, 0, none⟩) n cap) (xs.set i y) := by
  subst hu
  have := Own.set_ (i := i) bcs_len h hi y 0 (.int .u8 (y : Nat)) rfl (by omega)
  rwa [Nat.mul_one] at this

theorem nb_succ (k : Nat) : nb (k + 1) = k / 8 + 1 := by unfold nb; omega
/-- What one bit more does to the bytes. -/
theorem of_step {l : List Bool} {k : Nat} (hk : k < l.length) {bs : List Nat} (hbs : bs = if k % 8 = 0 then pack (l.take k) ++ [0] else pack (l.take k)) :
    ∃ hq : k / 8 < bs.length, bs[k / 8] < 256 ∧ bs.set (k / 8) (bs[k / 8] ||| l[k].toNat <<< (7 - k % 8)) = pack (l.take (k + 1)) := by
  have htl : (l.take k).length = k := by rw [List.length_take]; omega
  have htl1 : (l.take (k + 1)).length = k + 1 := by rw [List.length_take]; omega
  have hpl : (pack (l.take k)).length = nb k := by rw [pack_length, htl]
  have hlen : bs.length = k / 8 + 1 := by
    rw [hbs]; split
    · rw [List.length_append, hpl]; simp; unfold nb; omega
    · rw [hpl]; unfold nb; omega
  have hcur : ∀ j < 8, (bs[k / 8]'(by omega)).testBit j = (decide (8 * (k / 8) + (7 - j) < k) && l.getD (8 * (k / 8) + (7 - j)) false) := by
    intro j hj
    by_cases h0 : k % 8 = 0
    · have e : bs[k / 8]'(by omega) = 0 := by
        simp only [hbs, if_pos h0]
        rw [List.getElem_append_right (by rw [hpl]; unfold nb; omega)]; simp
      rw [e, Nat.zero_testBit, decide_eq_false (by omega), Bool.false_and]
    · have e : bs[k / 8]'(by omega) = oct fun j => (l.take k).getD (8 * (k / 8) + j) false := by
        simp only [hbs, if_neg h0]
        rw [pack_get]
      rw [e, oct_testBit, decide_eq_true hj, Bool.true_and]
      by_cases hh : 8 * (k / 8) + (7 - j) < k
      · rw [decide_eq_true hh, Bool.true_and, List.getD_eq_getElem?_getD, List.getElem?_take, if_pos hh, ← List.getD_eq_getElem?_getD]
      · rw [decide_eq_false hh, Bool.false_and, getD_ge (by omega)]
  have hcl : (bs[k / 8]'(by omega)) < 256 := by
    by_cases h0 : k % 8 = 0
    · have e : bs[k / 8]'(by omega) = 0 := by
        simp only [hbs, if_pos h0]
        rw [List.getElem_append_right (by rw [hpl]; unfold nb; omega)]; simp
      omega
    · have e : bs[k / 8]'(by omega) = oct fun j => (l.take k).getD (8 * (k / 8) + j) false := by
        simp only [hbs, if_neg h0]
        rw [pack_get]
      rw [e]; exact oct_lt _
  refine ⟨by omega, hcl, ?_⟩
  apply List.ext_getElem
  · rw [List.length_set, hlen, pack_length, htl1, nb_succ]
  intro q h1 h2
  rw [pack_length, htl1, nb_succ] at h2
  rw [pack_get, List.getElem_set]
  split
  · rename_i hq
    subst hq
    have hs : l[k].toNat <<< (7 - k % 8) < 256 := by
      have : l[k].toNat ≤ 1 := toNat_le1 _
      have h8 : 2 ^ (7 - k % 8) ≤ 2 ^ 7 := Nat.pow_le_pow_right (by omega) (by omega)
      rw [Nat.shiftLeft_eq]
      have := Nat.mul_le_mul this h8
      omega
    apply byte_ext (Nat.or_lt_two_pow (n := 8) hcl hs) (oct_lt _)
    intro j hj
    rw [Nat.testBit_or, hcur j hj, oct_testBit, decide_eq_true hj, Bool.true_and, Nat.testBit_shiftLeft]
    by_cases ha : 8 * (k / 8) + (7 - j) < k
    · have hb : ¬ j - (7 - k % 8) = 0 ∨ ¬ j ≥ 7 - k % 8 := by omega
      have hz : (decide (j ≥ 7 - k % 8) && l[k].toNat.testBit (j - (7 - k % 8))) = false := by
        by_cases hj2 : j ≥ 7 - k % 8
        · have hne : j - (7 - k % 8) ≠ 0 := by omega
          have : l[k].toNat.testBit (j - (7 - k % 8)) = false := Nat.testBit_lt_two_pow (Nat.lt_of_le_of_lt (toNat_le1 _) (Nat.one_lt_two_pow hne))
          rw [this, Bool.and_false]
        · rw [decide_eq_false hj2, Bool.false_and]
      rw [hz, decide_eq_true ha, Bool.true_and, Bool.or_false, List.getD_eq_getElem?_getD, List.getD_eq_getElem?_getD, List.getElem?_take, if_pos (by omega)]
    · rw [decide_eq_false ha, Bool.false_and, Bool.false_or]
      by_cases hb : 8 * (k / 8) + (7 - j) = k
      · rw [decide_eq_true (show j ≥ 7 - k % 8 by omega), Bool.true_and, show j - (7 - k % 8) = 0 by omega, hb, List.getD_eq_getElem?_getD, List.getElem?_take, if_pos (by omega), List.getElem?_eq_getElem hk]
        cases l[k] <;> rfl
      · rw [decide_eq_false (show ¬ j ≥ 7 - k % 8 by omega), Bool.false_and, getD_ge (by omega)]
  · rename_i hq
    have hq2 : q < k / 8 := by omega
    have e : bs[q]'(by omega) = oct fun j => (l.take k).getD (8 * q + j) false := by
      by_cases h0 : k % 8 = 0
      · simp only [hbs, if_pos h0]
        rw [List.getElem_append_left (by rw [hpl]; unfold nb; omega), pack_get]
      · simp only [hbs, if_neg h0]
        rw [pack_get]
    rw [e]
    apply oct_ext
    intro j hj
    simp only [List.getD_eq_getElem?_getD]
    rw [List.getElem?_take, List.getElem?_take, if_pos (by omega), if_pos (by omega)]

theorem shl_lt {b : Bool} {k : Nat} (h : k < 8) : b.toNat <<< k < 256 := by
  have : b.toNat ≤ 1 := toNat_le1 _
  have h8 : 2 ^ k ≤ 2 ^ 7 := Nat.pow_le_pow_right (by omega) (by omega)
  rw [Nat.shiftLeft_eq]
  have := Nat.mul_le_mul this h8
  omega

set_option maxRecDepth 100000 in
set_option maxHeartbeats 1000000 in
/-- Ones and noughts as bits. -/
theorem rof_any (l : List Bool) (hl : l.length ≤ 1000000) (a : Option Addr) (cap : Nat) (w : World) (hs : SlT w a cap l) :
    Calls Tryd.prog 49 #[.slice a l.length cap] w (Gives w fun v w' => ∃ a' c', v = bv a' (pack l).length c' l.length ∧ OwnB w.heap.size w' (.slice a' (pack l).length c') (pack l)) := by
  go_enter Tryd.func49, Tryd.ntmps49
  go_wp2
  go_loopw [3, 4] (fun o i wr => ∃ (k : Nat), k ≤ l.length ∧ i = .int .i64 k ∧ Ov (w.alloc (.cells #[.slice none 0 0, .int .i64 0] 29)) wr ∧ OwnB (w.alloc (.cells #[.slice none 0 0, .int .i64 0] 29)).heap.size wr o (pack (l.take k))) (fun _ i _ => l.length - (intOf i).toNat)
  case atStart =>
    exact ⟨0, Nat.zero_le _, rfl, (by (try unfold Ov); repeat (first | with_reducible exact ex_over | with_reducible exact over_self _ | with_reducible refine ex_undrew ?_ | with_reducible refine ex_into ?_ _ | with_reducible refine ex_alloc ?_ _ | with_reducible refine ex_drew ?_ | ((with_reducible refine ex_setCell ?_ ?_ _); rotate_left; (first | omega | (focus (simp; done)) | (focus (simp; omega)))) | ((with_reducible refine ex_chg ?_ _ ?_); rotate_left; (first | assumption | (exact Hid.out (by assumption)))) | exact ex_over)), by rw [List.take_zero, pack_nil]; exact Own.nil _⟩
  case round =>
    obtain ⟨k, hk, rfl, ⟨e, rfl⟩, hown⟩ := hrel
    by_cases hlt : k < l.length
    · have hlt' : (k : Int) < (l.length : Int) := by omega
      have htk : (pack (l.take k)).length ≤ 1000000 := pack_len_le (by rw [List.length_take]; omega)
      obtain ⟨b, off, rfl, hb, c0⟩ := hs.at_ hlt
      cases h8 : ((k : Int) % 8 == 0)
      · obtain ⟨hq, hc, hset⟩ := of_step hlt (bs := pack (l.take k)) (by rw [if_neg (by simp at h8; omega)])
        obtain ⟨g, cp, rfl, hg1, hg2, c1, f1⟩ := OwnB.open_ hown hq
        simp at hg1 hg2
        have HS := hid hset
        clear hset
        go_wp2_with fail
        refine M2.wp_region_mix [19] 19 (by kernel_rfl) (by kernel_rfl) (by decide) ?_
        simp only [List.take_succ_cons, List.take_zero, List.drop_succ_cons, List.drop_zero]
        with_reducible refine M2.mixL_quiet 19 (by kernel_rfl) ?_
        simp only [List.take_succ_cons, List.take_zero, List.drop_succ_cons, List.drop_zero]
        repeat (go_big_quiet_step (fail))
        with_reducible refine wpQuiet_nil ?_
        with_reducible refine M2.mixL_nil ?_
        with_reducible refine M2.mixL_eff (by decide) ?_
        go_wp2_with (fail)
        refine M2.MixQ.mk trivial ?_
        with_reducible refine M2.mixL_nil ?_
        go_wp2_with fail
        go_roundw
        case rel =>
          refine ⟨k + 1, by omega, by go_num, (by (try unfold Ov); repeat (first | with_reducible exact ex_over | with_reducible exact over_self _ | with_reducible refine ex_undrew ?_ | with_reducible refine ex_into ?_ _ | with_reducible refine ex_alloc ?_ _ | with_reducible refine ex_drew ?_ | ((with_reducible refine ex_setCell ?_ ?_ _); rotate_left; (first | omega | (focus (simp; done)) | (focus (simp; omega)))) | ((with_reducible refine ex_chg ?_ _ ?_); rotate_left; (first | assumption | (exact Hid.out (by assumption)))) | exact ex_over)), ?_⟩
          rw [← HS.out]
          exact Own.drew (OwnB.set hown hq (by rw [cast_shl8, Nat.mod_eq_of_lt (shl_lt (by omega)), or8 _ _ hc (shl_lt (by omega))]))
        case measure => simp [intOf]; omega
      · obtain ⟨BS, hBS⟩ : ∃ BS, BS = pack (l.take k) ++ [0] := ⟨_, rfl⟩
        obtain ⟨hq, hc, hset⟩ := of_step hlt (bs := BS) (by rw [if_pos (by simp at h8; omega)]; exact hBS)
        have HS := hid hset
        have HBS := hid hBS
        clear hset hBS
        go_wp2_with (at_builtin; refine wpList_append byte_elem bcs_len bcs_one rfl (.tmp 14) (.tmp 15) rfl (B := w.alloc (.cells #[.slice none 0 0, .int .i64 0] 29)) (xs := [0]) hown rfl rfl (by (try unfold Ov); repeat (first | with_reducible exact ex_over | with_reducible exact over_self _ | with_reducible refine ex_undrew ?_ | with_reducible refine ex_into ?_ _ | with_reducible refine ex_alloc ?_ _ | with_reducible refine ex_drew ?_ | ((with_reducible refine ex_setCell ?_ ?_ _); rotate_left; (first | omega | (focus (simp; done)) | (focus (simp; omega)))) | ((with_reducible refine ex_chg ?_ _ ?_); rotate_left; (first | assumption | (exact Hid.out (by assumption)))) | exact ex_over)) (by (try unfold Ov); repeat (first | with_reducible exact ex_over | with_reducible exact over_self _ | with_reducible refine ex_undrew ?_ | with_reducible refine ex_into ?_ _ | with_reducible refine ex_alloc ?_ _ | with_reducible refine ex_drew ?_ | ((with_reducible refine ex_setCell ?_ ?_ _); rotate_left; (first | omega | (focus (simp; done)) | (focus (simp; omega)))) | ((with_reducible refine ex_chg ?_ _ ?_); rotate_left; (first | assumption | (exact Hid.out (by assumption)))) | exact ex_over)) (by first | assumption | (simp; done) | (simp; omega) | omega) (by first | assumption | (simp; done) | (simp; omega) | omega) (by (repeat with_reducible refine Sl.drew ?_); exact Sl.one_new (y := 0) (by simp; try omega)) (by simp only [List.length_append, List.length_singleton, List.length_nil]; unfold maxLen; omega) (by simp only [List.length_append, List.length_singleton, List.length_nil]; omega) ?_; intro v' x' hown' _ _; rw [← HBS.out] at hown'; obtain ⟨g, cp, rfl, hg1, hg2, c1, f1⟩ := OwnB.open_ hown' hq; simp at hg1 hg2)
        go_wp2_with fail
        refine M2.wp_region_mix [19] 19 (by kernel_rfl) (by kernel_rfl) (by decide) ?_
        simp only [List.take_succ_cons, List.take_zero, List.drop_succ_cons, List.drop_zero]
        with_reducible refine M2.mixL_quiet 19 (by kernel_rfl) ?_
        simp only [List.take_succ_cons, List.take_zero, List.drop_succ_cons, List.drop_zero]
        repeat (go_big_quiet_step (fail))
        with_reducible refine wpQuiet_nil ?_
        with_reducible refine M2.mixL_nil ?_
        with_reducible refine M2.mixL_eff (by decide) ?_
        go_wp2_with (fail)
        refine M2.MixQ.mk trivial ?_
        with_reducible refine M2.mixL_nil ?_
        go_wp2_with fail
        go_roundw
        case rel =>
          refine ⟨k + 1, by omega, by go_num, (by (try unfold Ov); repeat (first | with_reducible exact ex_over | with_reducible exact over_self _ | with_reducible refine ex_undrew ?_ | with_reducible refine ex_into ?_ _ | with_reducible refine ex_alloc ?_ _ | with_reducible refine ex_drew ?_ | ((with_reducible refine ex_setCell ?_ ?_ _); rotate_left; (first | omega | (focus (simp; done)) | (focus (simp; omega)))) | ((with_reducible refine ex_chg ?_ _ ?_); rotate_left; (first | assumption | (exact Hid.out (by assumption)))) | exact ex_over)), ?_⟩
          rw [← HS.out]
          exact Own.drew (OwnB.set hown' hq (by rw [cast_shl8, Nat.mod_eq_of_lt (shl_lt (by omega)), or8 _ _ hc (shl_lt (by omega))]))
        case measure => simp [intOf]; omega
    · obtain rfl : k = l.length := by omega
      rw [List.take_length] at hown
      obtain ⟨ao, co, rfl, _⟩ := Own.slice bcs_len hown
      go_wp2
      (try simp only [Exit.inBlock, Exit.then])
      refine bodyPost_ret (v := ?rv1) ?rh1 rfl ?rp1
      case rh1 => (simp only [results, show Tryd.f49.results = #[.cell 2 29] from rfl]; go_simp; rfl)
      exact ⟨(by (try unfold Ov); repeat (first | with_reducible exact ex_over | with_reducible exact over_self _ | with_reducible refine ex_undrew ?_ | with_reducible refine ex_into ?_ _ | with_reducible refine ex_alloc ?_ _ | with_reducible refine ex_drew ?_ | ((with_reducible refine ex_setCell ?_ ?_ _); rotate_left; (first | omega | (focus (simp; done)) | (focus (simp; omega)))) | ((with_reducible refine ex_chg ?_ _ ?_); rotate_left; (first | assumption | (exact Hid.out (by assumption)))) | exact ex_over)), _, rfl, _, _, rfl, Own.mono (Own.over_swap hown (by simp) (Nat.le_refl _)) (by simp)⟩
end Go.Proofs.YthljlajdkdgieaaDoor
