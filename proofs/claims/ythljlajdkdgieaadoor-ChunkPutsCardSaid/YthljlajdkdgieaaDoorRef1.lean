/- Walks: the document's bits (draymanref01). -/
import Derived.Test.YthljlajdkdgieaaDoorBitW
namespace Go.Proofs.YthljlajdkdgieaaDoor
set_option linter.unusedVariables false
set_option linter.unusedSimpArgs false
open Go.RowKit

theorem bit_p {b k : Nat} (hk : k < 8) : (b >>> k) % 2 = (b.testBit k).toNat := by
  rw [Nat.testBit_eq_decide_div_mod_eq, Nat.shiftRight_eq_div_pow]
  rcases Nat.mod_two_eq_zero_or_one (b / 2 ^ k) with h | h <;> rw [h] <;> rfl

theorem and1_8 (x : Nat) (h : x < 256) : bits .and .u8 (x : Int) 1 = ((x % 2 : Nat) : Int) := by
  have := and8 x 1 h (by decide)
  rwa [Nat.and_one_is_mod] at this

set_option maxHeartbeats 400000 in
/-- The i-th bit of any bytes. -/
theorem rbit_any (bs : List Nat) (hbs : ∀ b ∈ bs, b < 256) (i : Nat) (hi : i / 8 < bs.length) (hl : bs.length ≤ 1000000) (N : Int) (a : Option Addr) (cap : Nat) (w : World) (hs : SlB w a cap bs) :
    Calls Tryd.prog 63 #[bv a bs.length cap N, .int .i64 i] w (Ret w (.int .u8 ((bs[i / 8].testBit (7 - i % 8)).toNat : Nat))) := by
  obtain ⟨b, off, rfl, hb, c0⟩ := hs.at_ hi
  have hb0 := hbs _ (List.getElem_mem hi)
  have hi2 : (i : Int) / 8 < (bs.length : Int) := by omega
  have e := hid (bit_p (b := bs[i / 8]) (k := 7 - i % 8) (by omega))
  go_enter Tryd.func63, Tryd.ntmps63
  go_wp2
  go_ret
  refine ⟨(by (try unfold Ov); repeat (first | with_reducible exact ex_over | with_reducible exact over_self _ | with_reducible refine ex_undrew ?_ | with_reducible refine ex_into ?_ _ | with_reducible refine ex_alloc ?_ _ | with_reducible refine ex_drew ?_ | ((with_reducible refine ex_setCell ?_ ?_ _); rotate_left; (first | omega | (focus (simp; done)) | (focus (simp; omega)))) | ((with_reducible refine ex_chg ?_ _ ?_); rotate_left; (first | assumption | (exact Hid.out (by assumption)))) | exact ex_over)), ret_int ?_⟩
  rw [← e.out, cast_shr, and1_8 _ (shr_lt hb0)]

theorem mod_zero_iff (x m : Nat) : x % 2 ^ m = 0 ↔ ∀ k < m, x.testBit k = false := by
  constructor
  · intro h k hk
    have := Nat.testBit_mod_two_pow x m k
    rw [h, decide_eq_true hk, Bool.true_and, Nat.zero_testBit] at this
    exact this.symm
  · intro h
    apply Nat.eq_of_testBit_eq
    intro k
    rw [Nat.testBit_mod_two_pow, Nat.zero_testBit]
    by_cases hk : k < m
    · rw [h k hk, Bool.and_false]
    · rw [decide_eq_false hk, Bool.false_and]

theorem sound_iff {bs : List Nat} {n : Nat} (h : bs.length = nb n) : soundB bs n = true ↔ ∀ i, n ≤ i → ∀ hi : i / 8 < bs.length, bs[i / 8].testBit (7 - i % 8) = false := by
  have h1 : (bs.length : Int) = ((n : Int) + 7) / 8 := by unfold nb at h; omega
  simp only [soundB, Bool.and_eq_true, Bool.or_eq_true, decide_eq_true_eq, h1, and_true]
  by_cases hz : (n : Int) % 8 = 0
  · refine ⟨fun _ i hi hq => ?_, fun _ => ⟨by omega, .inl hz⟩⟩
    unfold nb at h; omega
  · have hq : n / 8 < bs.length := by unfold nb at h; omega
    have hl : bs.getLastD 0 = bs[n / 8] := by
      rw [List.getLastD_eq_getLast?, List.getLast?_eq_getElem?, show bs.length - 1 = n / 8 by unfold nb at h; omega, List.getElem?_eq_getElem hq]; rfl
    have hm : ((n : Int) % 8).toNat = n % 8 := by omega
    rw [hl, hm, mod_zero_iff]
    constructor
    · rintro ⟨_, hz' | h2⟩ i hi hq'
      · exact absurd hz' hz
      · have e : i / 8 = n / 8 := by unfold nb at h; omega
        have := h2 (7 - i % 8) (by omega)
        simpa [e] using this
    · intro h2
      refine ⟨by omega, .inr fun k hk => ?_⟩
      have e1 : (8 * (n / 8) + (7 - k)) / 8 = n / 8 := by omega
      have e2 : 7 - (8 * (n / 8) + (7 - k)) % 8 = k := by omega
      have := h2 (8 * (n / 8) + (7 - k)) (by omega) (by omega)
      simp only [e1, e2] at this
      exact this

theorem soundB_len {bs : List Nat} {n : Nat} (h : soundB bs n = true) : bs.length = nb n := by
  simp only [soundB, Bool.and_eq_true, decide_eq_true_eq] at h
  have := h.1.2
  unfold nb; omega

theorem soundB_no {bs : List Nat} {n : Nat} (h : bs.length ≠ nb n) : soundB bs n = false := by
  cases hh : soundB bs n
  · rfl
  · exact absurd (soundB_len hh) h

set_option maxHeartbeats 1000000 in
theorem rsound_any (bs : List Nat) (hbs : ∀ b ∈ bs, b < 256) (hl : bs.length ≤ 1000000) (N : Int) (hN : -9223372036854775808 ≤ N ∧ N ≤ 9223372036854775807) (a : Option Addr) (cap : Nat) (w : World) (hs : SlB w a cap bs) :
    Calls Tryd.prog 46 #[bv a bs.length cap N] w (Ret w (.bool (soundB bs N))) := by
  obtain ⟨hN0, hN1⟩ := hN
  cases h0 : decide (N < 0)
  rotate_left
  · have g0 := of_decide_eq_true h0
    have e := hid (show soundB bs N = false by simp only [soundB]; rw [decide_eq_false (show ¬ 0 ≤ N by omega)]; rfl)
    clear g0
    go_enter Tryd.func46, Tryd.ntmps46
    go_wp2
    go_ret
    exact ⟨(by (try unfold Ov); repeat (first | with_reducible exact ex_over | with_reducible exact over_self _ | with_reducible refine ex_undrew ?_ | with_reducible refine ex_into ?_ _ | with_reducible refine ex_alloc ?_ _ | with_reducible refine ex_drew ?_ | ((with_reducible refine ex_setCell ?_ ?_ _); rotate_left; (first | omega | (focus (simp; done)) | (focus (simp; omega)))) | ((with_reducible refine ex_chg ?_ _ ?_); rotate_left; (first | assumption | (exact Hid.out (by assumption)))) | exact ex_over)), ret_bool e.out.symm⟩
  have g0 := of_decide_eq_false h0
  have h0' : 0 ≤ N := by omega
  obtain ⟨N, rfl⟩ : ∃ n : Nat, N = n := ⟨N.toNat, by omega⟩
  clear g0 h0'
  cases h1 : decide (8 * (bs.length : Int) < N)
  rotate_left
  · have e := hid (show soundB bs N = false from soundB_no (by have := of_decide_eq_true h1; unfold nb; omega))
    go_enter Tryd.func46, Tryd.ntmps46
    go_wp2
    go_ret
    exact ⟨(by (try unfold Ov); repeat (first | with_reducible exact ex_over | with_reducible exact over_self _ | with_reducible refine ex_undrew ?_ | with_reducible refine ex_into ?_ _ | with_reducible refine ex_alloc ?_ _ | with_reducible refine ex_drew ?_ | ((with_reducible refine ex_setCell ?_ ?_ _); rotate_left; (first | omega | (focus (simp; done)) | (focus (simp; omega)))) | ((with_reducible refine ex_chg ?_ _ ?_); rotate_left; (first | assumption | (exact Hid.out (by assumption)))) | exact ex_over)), ret_bool e.out.symm⟩
  cases h2 : ((bs.length : Int) != 0)
  · have h2' : bs.length = 0 := by simpa using h2
    have hn : N = 0 := by have := of_decide_eq_false h1; omega
    have HL := hid (show bs.length = nb N by rw [h2', hn]; rfl)
    have hN8 : N ≤ 8 * bs.length := by omega
    clear hn h2'
    go_enter Tryd.func46, Tryd.ntmps46
    go_wp2
    go_loopw [3] (fun i wr => ∃ (k : Nat), N ≤ k ∧ k ≤ 8 * bs.length ∧ i = .int .i64 k ∧ Ov (w.alloc (.cells #[.slice a bs.length cap, .int .i64 N] 29)) wr ∧ Hid (∀ i, N ≤ i → i < k → ∀ hi : i / 8 < bs.length, bs[i / 8].testBit (7 - i % 8) = false)) (fun i _ => 8 * bs.length - (intOf i).toNat)
    case atStart =>
      exact ⟨N, Nat.le_refl _, hN8, rfl, (by (try unfold Ov); repeat (first | with_reducible exact ex_over | with_reducible exact over_self _ | with_reducible refine ex_undrew ?_ | with_reducible refine ex_into ?_ _ | with_reducible refine ex_alloc ?_ _ | with_reducible refine ex_drew ?_ | ((with_reducible refine ex_setCell ?_ ?_ _); rotate_left; (first | omega | (focus (simp; done)) | (focus (simp; omega)))) | ((with_reducible refine ex_chg ?_ _ ?_); rotate_left; (first | assumption | (exact Hid.out (by assumption)))) | exact ex_over)), hid (fun i h1 h2 => by omega)⟩
    case round =>
      obtain ⟨k, hk1, hk, rfl, ⟨e, rfl⟩, hto⟩ := hrel
      by_cases hlt : k < 8 * bs.length
      · have hk8 : k / 8 < bs.length := by omega
        have hlt' : (k : Int) < 8 * (bs.length : Int) := by omega
        cases ht : bs[k / 8].testBit (7 - k % 8)
        · have HT := hid ht
          have hB := hid (fun W hW => ht ▸ rbit_any bs hbs k hk8 hl N a cap W hW)
          clear ht
          go_wp2_with ((go_at_call 63; (with_reducible refine (hB.out _ (by repeat (first | with_reducible exact hs | with_reducible refine Sl.over ?_ _ | with_reducible refine Sl.alloc ?_ _ | with_reducible refine Sl.drew ?_ | exact hs))).mono ?_); rintro _ _ ⟨⟨e1, rfl⟩, rfl⟩))
          go_roundw
          case rel =>
            refine ⟨k + 1, by omega, by omega, by go_num, (by (try unfold Ov); repeat (first | with_reducible exact ex_over | with_reducible exact over_self _ | with_reducible refine ex_undrew ?_ | with_reducible refine ex_into ?_ _ | with_reducible refine ex_alloc ?_ _ | with_reducible refine ex_drew ?_ | ((with_reducible refine ex_setCell ?_ ?_ _); rotate_left; (first | omega | (focus (simp; done)) | (focus (simp; omega)))) | ((with_reducible refine ex_chg ?_ _ ?_); rotate_left; (first | assumption | (exact Hid.out (by assumption)))) | exact ex_over)), hid (fun i h1 h2 hi => ?_)⟩
            by_cases hik : i < k
            · exact hto.out i h1 hik hi
            · obtain rfl : i = k := by omega
              exact HT.out
          case measure => simp [intOf]; omega
        · have e := hid (show soundB bs N = false by
            cases hh : soundB bs N
            · rfl
            · have := (sound_iff HL.out).1 hh k hk1 hk8
              rw [this] at ht; cases ht)
          have hB := hid (fun W hW => ht ▸ rbit_any bs hbs k hk8 hl N a cap W hW)
          clear ht
          go_wp2_with ((go_at_call 63; (with_reducible refine (hB.out _ (by repeat (first | with_reducible exact hs | with_reducible refine Sl.over ?_ _ | with_reducible refine Sl.alloc ?_ _ | with_reducible refine Sl.drew ?_ | exact hs))).mono ?_); rintro _ _ ⟨⟨e1, rfl⟩, rfl⟩))
          go_ret
          exact ⟨(by (try unfold Ov); repeat (first | with_reducible exact ex_over | with_reducible exact over_self _ | with_reducible refine ex_undrew ?_ | with_reducible refine ex_into ?_ _ | with_reducible refine ex_alloc ?_ _ | with_reducible refine ex_drew ?_ | ((with_reducible refine ex_setCell ?_ ?_ _); rotate_left; (first | omega | (focus (simp; done)) | (focus (simp; omega)))) | ((with_reducible refine ex_chg ?_ _ ?_); rotate_left; (first | assumption | (exact Hid.out (by assumption)))) | exact ex_over)), ret_bool e.out.symm⟩
      · obtain rfl : k = 8 * bs.length := by omega
        have e := hid (show soundB bs N = true from (sound_iff HL.out).2 fun i h1 hi => hto.out i h1 (by omega) hi)
        go_wp2
        go_ret
        exact ⟨(by (try unfold Ov); repeat (first | with_reducible exact ex_over | with_reducible exact over_self _ | with_reducible refine ex_undrew ?_ | with_reducible refine ex_into ?_ _ | with_reducible refine ex_alloc ?_ _ | with_reducible refine ex_drew ?_ | ((with_reducible refine ex_setCell ?_ ?_ _); rotate_left; (first | omega | (focus (simp; done)) | (focus (simp; omega)))) | ((with_reducible refine ex_chg ?_ _ ?_); rotate_left; (first | assumption | (exact Hid.out (by assumption)))) | exact ex_over)), ret_bool e.out.symm⟩
  cases h3 : decide ((N : Int) ≤ 8 * ((bs.length : Int) - 1))
  rotate_left
  · have e := hid (show soundB bs N = false from soundB_no (by have := of_decide_eq_true h3; simp at h2; have : 0 < bs.length := List.length_pos_iff.2 h2; unfold nb; omega))
    go_enter Tryd.func46, Tryd.ntmps46
    go_wp2
    go_ret
    exact ⟨(by (try unfold Ov); repeat (first | with_reducible exact ex_over | with_reducible exact over_self _ | with_reducible refine ex_undrew ?_ | with_reducible refine ex_into ?_ _ | with_reducible refine ex_alloc ?_ _ | with_reducible refine ex_drew ?_ | ((with_reducible refine ex_setCell ?_ ?_ _); rotate_left; (first | omega | (focus (simp; done)) | (focus (simp; omega)))) | ((with_reducible refine ex_chg ?_ _ ?_); rotate_left; (first | assumption | (exact Hid.out (by assumption)))) | exact ex_over)), ret_bool e.out.symm⟩
  have hlen : bs.length = nb N := by
    have := of_decide_eq_false h1
    have := of_decide_eq_false h3
    unfold nb; omega
  have HL := hid hlen
  have hN8 : N ≤ 8 * bs.length := by unfold nb at hlen; omega
  clear hlen
  go_enter Tryd.func46, Tryd.ntmps46
  go_wp2
  go_loopw [3] (fun i wr => ∃ (k : Nat), N ≤ k ∧ k ≤ 8 * bs.length ∧ i = .int .i64 k ∧ Ov (w.alloc (.cells #[.slice a bs.length cap, .int .i64 N] 29)) wr ∧ Hid (∀ i, N ≤ i → i < k → ∀ hi : i / 8 < bs.length, bs[i / 8].testBit (7 - i % 8) = false)) (fun i _ => 8 * bs.length - (intOf i).toNat)
  case atStart =>
    exact ⟨N, Nat.le_refl _, hN8, rfl, (by (try unfold Ov); repeat (first | with_reducible exact ex_over | with_reducible exact over_self _ | with_reducible refine ex_undrew ?_ | with_reducible refine ex_into ?_ _ | with_reducible refine ex_alloc ?_ _ | with_reducible refine ex_drew ?_ | ((with_reducible refine ex_setCell ?_ ?_ _); rotate_left; (first | omega | (focus (simp; done)) | (focus (simp; omega)))) | ((with_reducible refine ex_chg ?_ _ ?_); rotate_left; (first | assumption | (exact Hid.out (by assumption)))) | exact ex_over)), hid (fun i h1 h2 => by omega)⟩
  case round =>
    obtain ⟨k, hk1, hk, rfl, ⟨e, rfl⟩, hto⟩ := hrel
    by_cases hlt : k < 8 * bs.length
    · have hk8 : k / 8 < bs.length := by omega
      have hlt' : (k : Int) < 8 * (bs.length : Int) := by omega
      cases ht : bs[k / 8].testBit (7 - k % 8)
      · have HT := hid ht
        have hB := hid (fun W hW => ht ▸ rbit_any bs hbs k hk8 hl N a cap W hW)
        clear ht
        go_wp2_with ((go_at_call 63; (with_reducible refine (hB.out _ (by repeat (first | with_reducible exact hs | with_reducible refine Sl.over ?_ _ | with_reducible refine Sl.alloc ?_ _ | with_reducible refine Sl.drew ?_ | exact hs))).mono ?_); rintro _ _ ⟨⟨e1, rfl⟩, rfl⟩))
        go_roundw
        case rel =>
          refine ⟨k + 1, by omega, by omega, by go_num, (by (try unfold Ov); repeat (first | with_reducible exact ex_over | with_reducible exact over_self _ | with_reducible refine ex_undrew ?_ | with_reducible refine ex_into ?_ _ | with_reducible refine ex_alloc ?_ _ | with_reducible refine ex_drew ?_ | ((with_reducible refine ex_setCell ?_ ?_ _); rotate_left; (first | omega | (focus (simp; done)) | (focus (simp; omega)))) | ((with_reducible refine ex_chg ?_ _ ?_); rotate_left; (first | assumption | (exact Hid.out (by assumption)))) | exact ex_over)), hid (fun i h1 h2 hi => ?_)⟩
          by_cases hik : i < k
          · exact hto.out i h1 hik hi
          · obtain rfl : i = k := by omega
            exact HT.out
        case measure => simp [intOf]; omega
      · have e := hid (show soundB bs N = false by
          cases hh : soundB bs N
          · rfl
          · have := (sound_iff HL.out).1 hh k hk1 hk8
            rw [this] at ht; cases ht)
        have hB := hid (fun W hW => ht ▸ rbit_any bs hbs k hk8 hl N a cap W hW)
        clear ht
        go_wp2_with ((go_at_call 63; (with_reducible refine (hB.out _ (by repeat (first | with_reducible exact hs | with_reducible refine Sl.over ?_ _ | with_reducible refine Sl.alloc ?_ _ | with_reducible refine Sl.drew ?_ | exact hs))).mono ?_); rintro _ _ ⟨⟨e1, rfl⟩, rfl⟩))
        go_ret
        exact ⟨(by (try unfold Ov); repeat (first | with_reducible exact ex_over | with_reducible exact over_self _ | with_reducible refine ex_undrew ?_ | with_reducible refine ex_into ?_ _ | with_reducible refine ex_alloc ?_ _ | with_reducible refine ex_drew ?_ | ((with_reducible refine ex_setCell ?_ ?_ _); rotate_left; (first | omega | (focus (simp; done)) | (focus (simp; omega)))) | ((with_reducible refine ex_chg ?_ _ ?_); rotate_left; (first | assumption | (exact Hid.out (by assumption)))) | exact ex_over)), ret_bool e.out.symm⟩
    · obtain rfl : k = 8 * bs.length := by omega
      have e := hid (show soundB bs N = true from (sound_iff HL.out).2 fun i h1 hi => hto.out i h1 (by omega) hi)
      go_wp2
      go_ret
      exact ⟨(by (try unfold Ov); repeat (first | with_reducible exact ex_over | with_reducible exact over_self _ | with_reducible refine ex_undrew ?_ | with_reducible refine ex_into ?_ _ | with_reducible refine ex_alloc ?_ _ | with_reducible refine ex_drew ?_ | ((with_reducible refine ex_setCell ?_ ?_ _); rotate_left; (first | omega | (focus (simp; done)) | (focus (simp; omega)))) | ((with_reducible refine ex_chg ?_ _ ?_); rotate_left; (first | assumption | (exact Hid.out (by assumption)))) | exact ex_over)), ret_bool e.out.symm⟩
end Go.Proofs.YthljlajdkdgieaaDoor
