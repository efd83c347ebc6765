/- Walks: the document's Put of bits. -/
import Derived.Test.YthljlajdkdgieaaDoorRxA
import Derived.Test.YthljlajdkdgieaaDoorRefC
import Derived.Test.YthljlajdkdgieaaDoorMemB
import Derived.Test.YthljlajdkdgieaaDoorRbO
namespace Go.Proofs.YthljlajdkdgieaaDoor
set_option linter.unusedVariables false
set_option linter.unusedSimpArgs false
open Go.RowKit
attribute [local go_sem] over_drew

set_option maxRecDepth 100000 in
set_option maxHeartbeats 4000000 in
theorem rbput_yes (l : List Bool) (hl : l.length ≤ 800000) (a : Option Addr) (cap : Nat) (n W : Nat) (hn : n < 18446744073709551616) (hW : W ≤ 64) (w : World) (hb : SlB w a cap (pack l)) :
    Calls Tryd.prog 53 #[bv a (pack l).length cap l.length, .int .u64 (n : Nat), .int .i64 (W : Nat)] w (RbOwn w (l ++ num n W)) := by
  have H1 := hid (fun W hW => rsound_any (pack l) pack_lt (pack_len_le (by omega)) l.length (by omega) a cap W hW)
  rw [sound_pack] at H1
  have H3 := hid (fun W hW => rlist_any l (by omega) a cap W hW)
  obtain ⟨L, hL⟩ : ∃ L, l ++ num n W = L := ⟨_, rfl⟩
  have hLl : L.length ≤ 1000000 := by rw [← hL, List.length_append, num_length]; omega
  have HO := hid (fun a cap W hW => rof_any L hLl a cap W hW)
  have HL := hid hL
  rw [hL]
  clear hL
  have hW1 : decide ((64 : Int) < (W : Int)) = false := decide_eq_false (by omega)
  have hW2 : decide ((W : Int) < 0) = false := decide_eq_false (by omega)
  go_enter Tryd.func53, Tryd.ntmps53
  go_wp2_with (first | (go_at_call 46; (with_reducible refine (H1.out _ (by repeat (first | with_reducible exact hb | with_reducible refine Sl.over ?_ _ | with_reducible refine Sl.alloc ?_ _ | with_reducible refine Sl.drew ?_ | exact hb))).mono ?_); rintro _ _ ⟨⟨e1, rfl⟩, rfl⟩) | (go_at_call 48; (with_reducible refine (H3.out _ (by repeat (first | with_reducible exact hb | with_reducible refine Sl.over ?_ _ | with_reducible refine Sl.alloc ?_ _ | with_reducible refine Sl.drew ?_ | exact hb))).mono ?_); rintro _ _ ⟨⟨e4, rfl⟩, v4, rfl, ho4⟩))
  obtain ⟨B, hB⟩ : ∃ B, B = over ((w.alloc (.cells #[.slice a (pack l).length cap, .int .i64 l.length] 29)).alloc (.cells #[.slice none 0 0, .int .i64 0] 29)) e1 := ⟨_, rfl⟩
  have OB : Hid (∃ e, B = over w e) := hid (by rw [hB]; exact (by (try unfold Ov); repeat (first | with_reducible exact ex_over | with_reducible exact over_self _ | with_reducible refine ex_undrew ?_ | with_reducible refine ex_into ?_ _ | with_reducible refine ex_alloc ?_ _ | with_reducible refine ex_drew ?_ | ((with_reducible refine ex_setCell ?_ ?_ _); rotate_left; (first | omega | (focus (simp; done)) | (focus (simp; omega)))) | ((with_reducible refine ex_chg ?_ _ ?_); rotate_left; (first | assumption | (exact Hid.out (by assumption)))) | exact ex_over)))
  have B4 : Hid (Blk B (w.heap.size + 1) [.slice none 0 0, .int .i64 0] 29) := hid (by rw [hB]; exact (by repeat (first | exact Blk.new' (by simp; done) | exact Blk.new' rfl | with_reducible assumption | with_reducible refine Blk.alloc ?_ _ | with_reducible refine Blk.drew ?_ | with_reducible refine Blk.on ?_ _ | ((with_reducible refine Blk.chg ?_ (chg_chg _ _ _) ?_); rotate_left; (first | assumption | (focus (simp; done)) | (focus (simp; omega)))))))
  refine gen_w ?_
  intro W7 hW7
  have V7 : Hid (∃ e, W7 = over B e) := hid (by rw [hW7, hB]; exact (by (try unfold Ov); repeat (first | with_reducible exact ex_over | with_reducible exact over_self _ | with_reducible refine ex_undrew ?_ | with_reducible refine ex_into ?_ _ | with_reducible refine ex_alloc ?_ _ | with_reducible refine ex_drew ?_ | ((with_reducible refine ex_setCell ?_ ?_ _); rotate_left; (first | omega | (focus (simp; done)) | (focus (simp; omega)))) | ((with_reducible refine ex_chg ?_ _ ?_); rotate_left; (first | assumption | (exact Hid.out (by assumption)))) | exact ex_over)))
  have OL : Hid (OwnT B.heap.size W7 v4 l) := hid (by rw [hW7, hB]; exact (by repeat (first | with_reducible exact ho4 | ((with_reducible refine Own.set_ne ?_ ?_ _); rotate_left; (first | assumption | (focus (simp; done)) | (focus (simp [Value.ownBlock]; done)) | (focus (simp [Value.ownBlock]; omega)))) | ((with_reducible refine Own.in_some ?_ _ ?_); rotate_left; (first | assumption | (focus (simp; done)) | (focus (simp; omega)))) | ((with_reducible refine Own.in_one ?_ _ ?_); rotate_left; (first | assumption | (focus (simp [Value.ownBlock]; done)) | (focus (simp [Value.ownBlock]; omega)))) | ((with_reducible refine Own.chg ?_ (chg_chg _ _ _) ?_); rotate_left; (first | assumption | (focus (simp; done)) | (focus (simp; omega)))) | with_reducible refine Own.over ?_ _ | with_reducible refine Own.alloc ?_ _ | with_reducible refine Own.drew ?_ | exact ho4)))
  clear hW7 hB ho4 H1 H3
  have hwB : w.heap.size + 1 < B.heap.size := B4.out.lt
  have q0 := B4.out.cell 0 rfl
  have q1 := B4.out.cell 1 rfl
  have q2 := B4.out.free 0
  have q3 := B4.out.free 1
  have hwp : w.heap.size ≤ w.heap.size + 1 := by omega
  generalize w.heap.size + 1 = p4 at *
  go_loopw [9, 10] (fun o i wr => ∃ (k : Nat), k ≤ W ∧ i = .int .i64 ((k : Int) - 1) ∧ Ov B wr ∧ OwnT B.heap.size wr o (l ++ num (n >>> k) (W - k))) (fun _ i _ => (intOf i + 1).toNat)
  case atStart =>
    refine ⟨W, Nat.le_refl _, rfl, V7.out, ?_⟩
    rw [Nat.sub_self, num_zero, List.append_nil]; exact OL.out
  case round =>
    obtain ⟨k, hk2, rfl, ⟨e9, rfl⟩, hown9⟩ := hrel
    by_cases hlt9 : 0 < k
    · obtain ⟨k, rfl⟩ : ∃ j, k = j + 1 := ⟨k - 1, by omega⟩
      have hE := bit_e n k hn
      have hN := hid (num_snoc n k W hk2)
      obtain ⟨Y, hY⟩ : ∃ Y, n.testBit k = Y := ⟨_, rfl⟩
      rw [hY] at hE hN
      have hYl := toNat_le1 Y
      obtain ⟨XS, hXS⟩ : ∃ XS, l ++ num (n >>> (k + 1)) (W - (k + 1)) = XS := ⟨_, rfl⟩
      rw [hXS] at hown9
      have HXS := hid hXS
      have hxl : XS.length ≤ 2000000 := by rw [← hXS, List.length_append, num_length]; omega
      clear hY hXS
      go_wp2_with (at_builtin; refine wpList_append byte_elem tcs_len tcs_one rfl (.tmp 31) (.tmp 38) rfl (B := B) (xs := [Y]) hown9 rfl rfl (by (try unfold Ov); repeat (first | with_reducible exact ex_over | with_reducible exact over_self _ | with_reducible refine ex_undrew ?_ | with_reducible refine ex_into ?_ _ | with_reducible refine ex_alloc ?_ _ | with_reducible refine ex_drew ?_ | ((with_reducible refine ex_setCell ?_ ?_ _); rotate_left; (first | omega | (focus (simp; done)) | (focus (simp; omega)))) | ((with_reducible refine ex_chg ?_ _ ?_); rotate_left; (first | assumption | (exact Hid.out (by assumption)))) | exact ex_over)) (by (try unfold Ov); repeat (first | with_reducible exact ex_over | with_reducible exact over_self _ | with_reducible refine ex_undrew ?_ | with_reducible refine ex_into ?_ _ | with_reducible refine ex_alloc ?_ _ | with_reducible refine ex_drew ?_ | ((with_reducible refine ex_setCell ?_ ?_ _); rotate_left; (first | omega | (focus (simp; done)) | (focus (simp; omega)))) | ((with_reducible refine ex_chg ?_ _ ?_); rotate_left; (first | assumption | (exact Hid.out (by assumption)))) | exact ex_over)) (by first | assumption | (simp; done) | (simp; omega) | omega) (by first | assumption | (simp; done) | (simp; omega) | omega) (by (repeat with_reducible refine Sl.drew ?_); exact Sl.one_new (y := Y) (by simp; try omega)) (by simp only [List.length_append, List.length_singleton, List.length_nil]; unfold maxLen; omega) (by simp only [List.length_append, List.length_singleton, List.length_nil]; omega) ?_; intro v' x' hown' _ _)
      go_roundw
      case rel =>
        rw [← HXS.out, List.append_assoc, hN.out] at hown'
        exact ⟨k, by omega, by go_num, (by (try unfold Ov); repeat (first | with_reducible exact ex_over | with_reducible exact over_self _ | with_reducible refine ex_undrew ?_ | with_reducible refine ex_into ?_ _ | with_reducible refine ex_alloc ?_ _ | with_reducible refine ex_drew ?_ | ((with_reducible refine ex_setCell ?_ ?_ _); rotate_left; (first | omega | (focus (simp; done)) | (focus (simp; omega)))) | ((with_reducible refine ex_chg ?_ _ ?_); rotate_left; (first | assumption | (exact Hid.out (by assumption)))) | exact ex_over)), hown'⟩
      case measure => simp [intOf] <;> omega
    · obtain rfl : k = 0 := by omega
      rw [Nat.shiftRight_zero, Nat.sub_zero, HL.out] at hown9
      obtain ⟨a5, c5, rfl, s5⟩ := Own.slice tcs_len hown9
      go_wp2_with (go_at_call 49; (with_reducible refine (HO.out _ _ _ (by repeat (first | with_reducible exact s5 | with_reducible refine Sl.over ?_ _ | with_reducible refine Sl.alloc ?_ _ | with_reducible refine Sl.drew ?_ | exact s5))).mono ?_); rintro _ _ ⟨⟨e10, rfl⟩, v6, rfl, a6, c6, rfl, ho6⟩)
      (try simp only [Exit.inBlock, Exit.then])
      refine bodyPost_ret (v := ?rv25) ?rh25 rfl ?rp25
      case rh25 => (simp only [results, show Tryd.f53.results = #[.cell 6 29, .tmp 7] from rfl]; go_simp; rfl)
      refine ⟨a6, c6, rfl, (by (try unfold Ov); repeat (first | with_reducible exact OB.out | with_reducible exact OB.out | with_reducible refine ex_undrew ?_ | with_reducible refine ex_into ?_ _ | with_reducible refine ex_alloc ?_ _ | with_reducible refine ex_drew ?_ | ((with_reducible refine ex_setCell ?_ ?_ _); rotate_left; (first | omega | (focus (simp; done)) | (focus (simp; omega)))) | ((with_reducible refine ex_chg ?_ _ ?_); rotate_left; (first | assumption | (exact Hid.out (by assumption)))) | exact ex_over)), ?_⟩
      (repeat with_reducible refine Own.drew ?_)
      exact Own.mono (Own.over_swap ho6 (by first | exact Nat.le_refl _ | rfl | omega | (simp; done) | (simp; omega)) (by first | exact Nat.le_refl _ | rfl | omega | (simp; done) | (simp; omega))) (by first | exact Nat.le_refl _ | rfl | omega | (simp; done) | (simp; omega))
end Go.Proofs.YthljlajdkdgieaaDoor
