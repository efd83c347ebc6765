/- Walks: the document's Put of small numbers. -/
import Derived.Test.YthljlajdkdgieaaDoorZigF
import Derived.Test.YthljlajdkdgieaaDoorRxA
import Derived.Test.YthljlajdkdgieaaDoorMemB
import Derived.Test.YthljlajdkdgieaaDoorRbO
namespace Go.Proofs.YthljlajdkdgieaaDoor
set_option linter.unusedVariables false
set_option linter.unusedSimpArgs false
open Go.RowKit
attribute [local go_sem] over_drew

/-- Bits of the call's own, an error (the document's). -/
def RzPost (w : World) (L : List Bool) (en : Ending) (w' : World) : Prop :=
  ∃ a c, en = .returned (.tuple #[bv a (pack L).length c L.length, .int .i64 0]) ∧ (∃ e, w' = over w e) ∧ SlB w' a c (pack L)

theorem rep_snoc (k : Nat) : List.replicate k true ++ [true] = List.replicate (k + 1) true := (List.replicate_succ' ..).symm

set_option maxRecDepth 100000 in
set_option maxHeartbeats 4000000 in
theorem rzput_yes (l : List Bool) (hl : l.length ≤ 800000) (a : Option Addr) (cap : Nat) (v : Int) (hv : i64ok v) (w : World) (hb : SlB w a cap (pack l)) :
    Calls Tryd.prog 54 #[bv a (pack l).length cap l.length, .int .i64 v] w (RbOwn w (l ++ zbits (foldZ v))) := by
  have H1 := hid (fun W hW => rsound_any (pack l) pack_lt (pack_len_le (by omega)) l.length (by omega) a cap W hW)
  rw [sound_pack] at H1
  have H2 := hid (fun W => rfold_any v hv W)
  have H3 := hid (fun W hW => rlist_any l (by omega) a cap W hW)
  have hn := foldZ_lt hv
  have hv64 : -9223372036854775808 ≤ v ∧ v ≤ 9223372036854775807 := hv
  obtain ⟨hv1, hv2⟩ := hv64
  generalize foldZ v = n at *
  have hr5 := zrow_le n
  have HF := hid (fun k hk W => rfits_any n k hn hk W)
  have HR := hid (fun W => rrow_any (zrow n) hr5 W)
  have hzl := zbits_len n
  obtain ⟨L, hL⟩ : ∃ L, l ++ zbits n = L := ⟨_, rfl⟩
  have hLl : L.length ≤ 1000000 := by rw [← hL, List.length_append]; omega
  have HO := hid (fun a cap W hW => rof_any L hLl a cap W hW)
  have HL := hid hL
  rw [hL]
  clear hL
  go_enter Tryd.func54, Tryd.ntmps54
  go_wp2_with (first | (go_at_call 46; (with_reducible refine (H1.out _ (by repeat (first | with_reducible exact hb | with_reducible refine Sl.over ?_ _ | with_reducible refine Sl.alloc ?_ _ | with_reducible refine Sl.drew ?_ | exact hb))).mono ?_); rintro _ _ ⟨⟨e1, rfl⟩, rfl⟩) | (go_at_call 79; (with_reducible refine (H2.out _).mono ?_); rintro _ _ ⟨⟨e2, rfl⟩, rfl⟩) | (go_at_call 48; (with_reducible refine (H3.out _ (by repeat (first | with_reducible exact hb | with_reducible refine Sl.over ?_ _ | with_reducible refine Sl.alloc ?_ _ | with_reducible refine Sl.drew ?_ | exact hb))).mono ?_); rintro _ _ ⟨⟨e4, rfl⟩, v4, rfl, ho4⟩))
  go_loopw [9] (fun i wr => ∃ (k : Nat), k ≤ zrow n ∧ i = .int .i64 (k : Nat) ∧ Ov (over (over (over ((w.alloc (.cells #[.slice a (pack l).length cap, .int .i64 l.length] 29)).alloc (.cells #[.slice none 0 0, .int .i64 0] 29)) e1) e2) e4) wr) (fun i _ => 5 - (intOf i).toNat)
  case atStart => exact ⟨0, Nat.zero_le _, rfl, (by (try unfold Ov); repeat (first | with_reducible exact ex_over | with_reducible exact over_self _ | with_reducible refine ex_undrew ?_ | with_reducible refine ex_into ?_ _ | with_reducible refine ex_alloc ?_ _ | with_reducible refine ex_drew ?_ | ((with_reducible refine ex_setCell ?_ ?_ _); rotate_left; (first | omega | (focus (simp; done)) | (focus (simp; omega)))) | ((with_reducible refine ex_chg ?_ _ ?_); rotate_left; (first | assumption | (exact Hid.out (by assumption)))) | exact ex_over))⟩
  case round =>
    obtain ⟨k, hk, rfl, ⟨e5, rfl⟩⟩ := hrel
    by_cases hlt : k < zrow n
    · have HFk := hid (fun W => HF.out k (by omega) W)
      rw [decide_eq_false (show ¬ zrow n ≤ k by omega)] at HFk
      go_wp2_with (go_at_call 80; (with_reducible refine (HFk.out _).mono ?_); rintro _ _ ⟨⟨e6, rfl⟩, rfl⟩)
      go_roundw
      case rel => exact ⟨k + 1, by omega, by go_num, (by (try unfold Ov); repeat (first | with_reducible exact ex_over | with_reducible exact over_self _ | with_reducible refine ex_undrew ?_ | with_reducible refine ex_into ?_ _ | with_reducible refine ex_alloc ?_ _ | with_reducible refine ex_drew ?_ | ((with_reducible refine ex_setCell ?_ ?_ _); rotate_left; (first | omega | (focus (simp; done)) | (focus (simp; omega)))) | ((with_reducible refine ex_chg ?_ _ ?_); rotate_left; (first | assumption | (exact Hid.out (by assumption)))) | exact ex_over))⟩
      case measure => simp [intOf]; omega
    · obtain rfl : k = zrow n := by omega
      have HFk := hid (fun W => HF.out (zrow n) (by omega) W)
      rw [decide_eq_true (Nat.le_refl _)] at HFk
      have hw64 := zw_le (zrow n)
      have hnw := zrow_lt hn
      have hz' : zbits n = zhead (zrow n) ++ num n (zw (zrow n)) := rfl
      have hzh' : zhead (zrow n) = List.replicate (zrow n) true ++ (if zrow n < 5 then [false] else []) := rfl
      have hl5 : OwnT (over (over ((w.alloc (.cells #[.slice a (pack l).length cap, .int .i64 l.length] 29)).alloc (.cells #[.slice none 0 0, .int .i64 0] 29)) e1) e2).heap.size (over (over (over (over ((w.alloc (.cells #[.slice a (pack l).length cap, .int .i64 l.length] 29)).alloc (.cells #[.slice none 0 0, .int .i64 0] 29)) e1) e2) e4) e5) v4 l := Own.over ho4 _
      generalize zrow n = R at *
      generalize zw R = W at *
      go_wp2_with (first | (go_at_call 80; (with_reducible refine (HFk.out _).mono ?_); rintro _ _ ⟨⟨e6, rfl⟩, rfl⟩) | (go_at_call 81; (with_reducible refine (HR.out _).mono ?_); rintro _ _ ⟨⟨e7, rfl⟩, rfl⟩))
      obtain ⟨B, hB⟩ : ∃ B, B = over (over ((w.alloc (.cells #[.slice a (pack l).length cap, .int .i64 l.length] 29)).alloc (.cells #[.slice none 0 0, .int .i64 0] 29)) e1) e2 := ⟨_, rfl⟩
      have OB : Hid (∃ e, B = over w e) := hid (by rw [hB]; exact (by (try unfold Ov); repeat (first | with_reducible exact ex_over | with_reducible exact over_self _ | with_reducible refine ex_undrew ?_ | with_reducible refine ex_into ?_ _ | with_reducible refine ex_alloc ?_ _ | with_reducible refine ex_drew ?_ | ((with_reducible refine ex_setCell ?_ ?_ _); rotate_left; (first | omega | (focus (simp; done)) | (focus (simp; omega)))) | ((with_reducible refine ex_chg ?_ _ ?_); rotate_left; (first | assumption | (exact Hid.out (by assumption)))) | exact ex_over)))
      have B4 : Hid (Blk B (w.heap.size + 1) [.slice none 0 0, .int .i64 0] 29) := hid (by rw [hB]; exact (by repeat (first | exact Blk.new' (by simp; done) | exact Blk.new' rfl | with_reducible assumption | with_reducible refine Blk.alloc ?_ _ | with_reducible refine Blk.drew ?_ | with_reducible refine Blk.on ?_ _ | ((with_reducible refine Blk.chg ?_ (chg_chg _ _ _) ?_); rotate_left; (first | assumption | (focus (simp; done)) | (focus (simp; omega)))))))
      refine gen_w ?_
      intro W7 hW7
      have V7 : Hid (∃ e, W7 = over B e) := hid (by rw [hW7, hB]; exact (by (try unfold Ov); repeat (first | with_reducible exact ex_over | with_reducible exact over_self _ | with_reducible refine ex_undrew ?_ | with_reducible refine ex_into ?_ _ | with_reducible refine ex_alloc ?_ _ | with_reducible refine ex_drew ?_ | ((with_reducible refine ex_setCell ?_ ?_ _); rotate_left; (first | omega | (focus (simp; done)) | (focus (simp; omega)))) | ((with_reducible refine ex_chg ?_ _ ?_); rotate_left; (first | assumption | (exact Hid.out (by assumption)))) | exact ex_over)))
      have OL : Hid (OwnT B.heap.size W7 v4 l) := hid (by rw [hW7, hB]; exact (by repeat (first | with_reducible exact hl5 | ((with_reducible refine Own.set_ne ?_ ?_ _); rotate_left; (first | assumption | (focus (simp; done)) | (focus (simp [Value.ownBlock]; done)) | (focus (simp [Value.ownBlock]; omega)))) | ((with_reducible refine Own.in_some ?_ _ ?_); rotate_left; (first | assumption | (focus (simp; done)) | (focus (simp; omega)))) | ((with_reducible refine Own.in_one ?_ _ ?_); rotate_left; (first | assumption | (focus (simp [Value.ownBlock]; done)) | (focus (simp [Value.ownBlock]; omega)))) | ((with_reducible refine Own.chg ?_ (chg_chg _ _ _) ?_); rotate_left; (first | assumption | (focus (simp; done)) | (focus (simp; omega)))) | with_reducible refine Own.over ?_ _ | with_reducible refine Own.alloc ?_ _ | with_reducible refine Own.drew ?_ | exact hl5)))
      clear hW7 hB hl5 ho4 HF HFk HR H1 H2 H3
      have hwB : w.heap.size + 1 < B.heap.size := B4.out.lt
      have q0 := B4.out.cell 0 rfl
      have q1 := B4.out.cell 1 rfl
      have q2 := B4.out.free 0
      have q3 := B4.out.free 1
      have hwp : w.heap.size ≤ w.heap.size + 1 := by omega
      generalize w.heap.size + 1 = p4 at *
      go_loopw [8, 12] (fun o i wr => ∃ (j : Nat), j ≤ R ∧ i = .int .i64 (j : Nat) ∧ Ov B wr ∧ OwnT B.heap.size wr o (l ++ List.replicate j true)) (fun _ i _ => R - (intOf i).toNat)
      case atStart =>
        refine ⟨0, Nat.zero_le _, rfl, V7.out, ?_⟩
        simpa using OL.out
      case round =>
        obtain ⟨j, hj, rfl, ⟨e8, rfl⟩, hown⟩ := hrel
        by_cases hjR : j < R
        · obtain ⟨XS, hXS⟩ : ∃ XS, l ++ List.replicate j true = XS := ⟨_, rfl⟩
          rw [hXS] at hown
          have HXS := hid hXS
          have hxl : XS.length ≤ 2000000 := by rw [← hXS, List.length_append, List.length_replicate]; omega
          clear hXS
          go_wp2_with (at_builtin; refine wpList_append byte_elem tcs_len tcs_one rfl (.tmp 39) (.tmp 40) rfl (B := B) (xs := [true]) hown rfl rfl (by (try unfold Ov); repeat (first | with_reducible exact ex_over | with_reducible exact over_self _ | with_reducible refine ex_undrew ?_ | with_reducible refine ex_into ?_ _ | with_reducible refine ex_alloc ?_ _ | with_reducible refine ex_drew ?_ | ((with_reducible refine ex_setCell ?_ ?_ _); rotate_left; (first | omega | (focus (simp; done)) | (focus (simp; omega)))) | ((with_reducible refine ex_chg ?_ _ ?_); rotate_left; (first | assumption | (exact Hid.out (by assumption)))) | exact ex_over)) (by (try unfold Ov); repeat (first | with_reducible exact ex_over | with_reducible exact over_self _ | with_reducible refine ex_undrew ?_ | with_reducible refine ex_into ?_ _ | with_reducible refine ex_alloc ?_ _ | with_reducible refine ex_drew ?_ | ((with_reducible refine ex_setCell ?_ ?_ _); rotate_left; (first | omega | (focus (simp; done)) | (focus (simp; omega)))) | ((with_reducible refine ex_chg ?_ _ ?_); rotate_left; (first | assumption | (exact Hid.out (by assumption)))) | exact ex_over)) (by first | assumption | (simp; done) | (simp; omega) | omega) (by first | assumption | (simp; done) | (simp; omega) | omega) (by (repeat with_reducible refine Sl.drew ?_); exact Sl.one_new (y := true) (by simp; try omega)) (by simp only [List.length_append, List.length_singleton, List.length_nil]; unfold maxLen; omega) (by simp only [List.length_append, List.length_singleton, List.length_nil]; omega) ?_; intro v' x' hown' _ _)
          go_roundw
          case rel =>
            rw [← HXS.out, List.append_assoc, rep_snoc] at hown'
            exact ⟨j + 1, by omega, by go_num, (by (try unfold Ov); repeat (first | with_reducible exact ex_over | with_reducible exact over_self _ | with_reducible refine ex_undrew ?_ | with_reducible refine ex_into ?_ _ | with_reducible refine ex_alloc ?_ _ | with_reducible refine ex_drew ?_ | ((with_reducible refine ex_setCell ?_ ?_ _); rotate_left; (first | omega | (focus (simp; done)) | (focus (simp; omega)))) | ((with_reducible refine ex_chg ?_ _ ?_); rotate_left; (first | assumption | (exact Hid.out (by assumption)))) | exact ex_over)), hown'⟩
          case measure => simp [intOf]; omega
        · obtain rfl : j = R := by omega
          by_cases h5 : j < 5
          · rw [if_pos h5] at hzh'
            have hzh := hid hzh'
            have hz := hid hz'
            clear hzh' hz'
            have h5' : (j : Int) < 5 := by omega
            obtain ⟨XT, hXT⟩ : ∃ XT, l ++ List.replicate j true = XT := ⟨_, rfl⟩
            rw [hXT] at hown
            have HXT := hid hXT
            have hxl : XT.length ≤ 2000000 := by rw [← hXT, List.length_append, List.length_replicate]; omega
            clear hXT
            go_wp2_with (at_builtin; refine wpList_append byte_elem tcs_len tcs_one rfl (.tmp 44) (.tmp 45) rfl (B := B) (xs := [false]) hown rfl rfl (by (try unfold Ov); repeat (first | with_reducible exact ex_over | with_reducible exact over_self _ | with_reducible refine ex_undrew ?_ | with_reducible refine ex_into ?_ _ | with_reducible refine ex_alloc ?_ _ | with_reducible refine ex_drew ?_ | ((with_reducible refine ex_setCell ?_ ?_ _); rotate_left; (first | omega | (focus (simp; done)) | (focus (simp; omega)))) | ((with_reducible refine ex_chg ?_ _ ?_); rotate_left; (first | assumption | (exact Hid.out (by assumption)))) | exact ex_over)) (by (try unfold Ov); repeat (first | with_reducible exact ex_over | with_reducible exact over_self _ | with_reducible refine ex_undrew ?_ | with_reducible refine ex_into ?_ _ | with_reducible refine ex_alloc ?_ _ | with_reducible refine ex_drew ?_ | ((with_reducible refine ex_setCell ?_ ?_ _); rotate_left; (first | omega | (focus (simp; done)) | (focus (simp; omega)))) | ((with_reducible refine ex_chg ?_ _ ?_); rotate_left; (first | assumption | (exact Hid.out (by assumption)))) | exact ex_over)) (by first | assumption | (simp; done) | (simp; omega) | omega) (by first | assumption | (simp; done) | (simp; omega) | omega) (by (repeat with_reducible refine Sl.drew ?_); exact Sl.one_new (y := false) (by simp; try omega)) (by simp only [List.length_append, List.length_singleton, List.length_nil]; unfold maxLen; omega) (by simp only [List.length_append, List.length_singleton, List.length_nil]; omega) ?_; intro v' x' hown' _ _; rw [← HXT.out, List.append_assoc] at hown')
            go_loopw [8, 13] (fun o i wr => ∃ (k : Nat), k ≤ W ∧ i = .int .i64 ((k : Int) - 1) ∧ Ov B wr ∧ OwnT B.heap.size wr o (l ++ (zhead j ++ num (n >>> k) (W - k)))) (fun _ i _ => (intOf i + 1).toNat)
            case atStart =>
              refine ⟨W, Nat.le_refl _, rfl, (by (try unfold Ov); repeat (first | with_reducible exact ex_over | with_reducible exact over_self _ | with_reducible refine ex_undrew ?_ | with_reducible refine ex_into ?_ _ | with_reducible refine ex_alloc ?_ _ | with_reducible refine ex_drew ?_ | ((with_reducible refine ex_setCell ?_ ?_ _); rotate_left; (first | omega | (focus (simp; done)) | (focus (simp; omega)))) | ((with_reducible refine ex_chg ?_ _ ?_); rotate_left; (first | assumption | (exact Hid.out (by assumption)))) | exact ex_over)), ?_⟩
              rw [Nat.sub_self, num_zero, List.append_nil, hzh.out]; exact hown'
            case round =>
              obtain ⟨k, hk2, rfl, ⟨e9, rfl⟩, hown9⟩ := hrel
              by_cases hlt9 : 0 < k
              · obtain ⟨k, rfl⟩ : ∃ j, k = j + 1 := ⟨k - 1, by omega⟩
                have hE := bit_e n k hn
                have hN := hid (num_snoc n k W hk2)
                obtain ⟨Y, hY⟩ : ∃ Y, n.testBit k = Y := ⟨_, rfl⟩
                rw [hY] at hE hN
                have hYl := toNat_le1 Y
                obtain ⟨XS, hXS⟩ : ∃ XS, l ++ (zhead j ++ num (n >>> (k + 1)) (W - (k + 1))) = XS := ⟨_, rfl⟩
                rw [hXS] at hown9
                have HXS := hid hXS
                have hxl : XS.length ≤ 2000000 := by
                  have hh := zhead_len (show j ≤ 5 from hr5)
                  rw [← hXS, List.length_append, List.length_append, num_length, hh]; omega
                clear hY hXS
                go_wp2_with (at_builtin; refine wpList_append byte_elem tcs_len tcs_one rfl (.tmp 53) (.tmp 60) rfl (B := B) (xs := [Y]) hown9 rfl rfl (by (try unfold Ov); repeat (first | with_reducible exact ex_over | with_reducible exact over_self _ | with_reducible refine ex_undrew ?_ | with_reducible refine ex_into ?_ _ | with_reducible refine ex_alloc ?_ _ | with_reducible refine ex_drew ?_ | ((with_reducible refine ex_setCell ?_ ?_ _); rotate_left; (first | omega | (focus (simp; done)) | (focus (simp; omega)))) | ((with_reducible refine ex_chg ?_ _ ?_); rotate_left; (first | assumption | (exact Hid.out (by assumption)))) | exact ex_over)) (by (try unfold Ov); repeat (first | with_reducible exact ex_over | with_reducible exact over_self _ | with_reducible refine ex_undrew ?_ | with_reducible refine ex_into ?_ _ | with_reducible refine ex_alloc ?_ _ | with_reducible refine ex_drew ?_ | ((with_reducible refine ex_setCell ?_ ?_ _); rotate_left; (first | omega | (focus (simp; done)) | (focus (simp; omega)))) | ((with_reducible refine ex_chg ?_ _ ?_); rotate_left; (first | assumption | (exact Hid.out (by assumption)))) | exact ex_over)) (by first | assumption | (simp; done) | (simp; omega) | omega) (by first | assumption | (simp; done) | (simp; omega) | omega) (by (repeat with_reducible refine Sl.drew ?_); exact Sl.one_new (y := Y) (by simp; try omega)) (by simp only [List.length_append, List.length_singleton, List.length_nil]; unfold maxLen; omega) (by simp only [List.length_append, List.length_singleton, List.length_nil]; omega) ?_; intro v' x' hown' _ _)
                go_roundw
                case rel =>
                  rw [← HXS.out, List.append_assoc, List.append_assoc, hN.out] at hown'
                  exact ⟨k, by omega, by go_num, (by (try unfold Ov); repeat (first | with_reducible exact ex_over | with_reducible exact over_self _ | with_reducible refine ex_undrew ?_ | with_reducible refine ex_into ?_ _ | with_reducible refine ex_alloc ?_ _ | with_reducible refine ex_drew ?_ | ((with_reducible refine ex_setCell ?_ ?_ _); rotate_left; (first | omega | (focus (simp; done)) | (focus (simp; omega)))) | ((with_reducible refine ex_chg ?_ _ ?_); rotate_left; (first | assumption | (exact Hid.out (by assumption)))) | exact ex_over)), hown'⟩
                case measure => simp [intOf] <;> omega
              · obtain rfl : k = 0 := by omega
                rw [Nat.shiftRight_zero, Nat.sub_zero, ← hz.out, HL.out] at hown9
                obtain ⟨a5, c5, rfl, s5⟩ := Own.slice tcs_len hown9
                go_wp2_with (go_at_call 49; (with_reducible refine (HO.out _ _ _ (by repeat (first | with_reducible exact s5 | with_reducible refine Sl.over ?_ _ | with_reducible refine Sl.alloc ?_ _ | with_reducible refine Sl.drew ?_ | exact s5))).mono ?_); rintro _ _ ⟨⟨e10, rfl⟩, v6, rfl, a6, c6, rfl, ho6⟩)
                (try simp only [Exit.inBlock, Exit.then])
                refine bodyPost_ret (v := ?rv26) ?rh26 rfl ?rp26
                case rh26 => (simp only [results, show Tryd.f54.results = #[.cell 4 29, .tmp 5] from rfl]; go_simp; rfl)
                refine ⟨a6, c6, rfl, (by (try unfold Ov); repeat (first | with_reducible exact OB.out | with_reducible exact OB.out | with_reducible refine ex_undrew ?_ | with_reducible refine ex_into ?_ _ | with_reducible refine ex_alloc ?_ _ | with_reducible refine ex_drew ?_ | ((with_reducible refine ex_setCell ?_ ?_ _); rotate_left; (first | omega | (focus (simp; done)) | (focus (simp; omega)))) | ((with_reducible refine ex_chg ?_ _ ?_); rotate_left; (first | assumption | (exact Hid.out (by assumption)))) | exact ex_over)), ?_⟩
                (repeat with_reducible refine Own.drew ?_)
                exact Own.mono (Own.over_swap ho6 (by first | exact Nat.le_refl _ | rfl | omega | (simp; done) | (simp; omega)) (by first | exact Nat.le_refl _ | rfl | omega | (simp; done) | (simp; omega))) (by first | exact Nat.le_refl _ | rfl | omega | (simp; done) | (simp; omega))
          · rw [if_neg h5, List.append_nil] at hzh'
            have hzh := hid hzh'
            have hz := hid hz'
            clear hzh' hz'
            have h5' : ¬ (j : Int) < 5 := by omega
            go_wp2_with fail
            go_loopw [8, 13] (fun o i wr => ∃ (k : Nat), k ≤ W ∧ i = .int .i64 ((k : Int) - 1) ∧ Ov B wr ∧ OwnT B.heap.size wr o (l ++ (zhead j ++ num (n >>> k) (W - k)))) (fun _ i _ => (intOf i + 1).toNat)
            case atStart =>
              refine ⟨W, Nat.le_refl _, rfl, (by (try unfold Ov); repeat (first | with_reducible exact ex_over | with_reducible exact over_self _ | with_reducible refine ex_undrew ?_ | with_reducible refine ex_into ?_ _ | with_reducible refine ex_alloc ?_ _ | with_reducible refine ex_drew ?_ | ((with_reducible refine ex_setCell ?_ ?_ _); rotate_left; (first | omega | (focus (simp; done)) | (focus (simp; omega)))) | ((with_reducible refine ex_chg ?_ _ ?_); rotate_left; (first | assumption | (exact Hid.out (by assumption)))) | exact ex_over)), ?_⟩
              rw [Nat.sub_self, num_zero, List.append_nil, hzh.out]; exact hown
            case round =>
              obtain ⟨k, hk2, rfl, ⟨e9, rfl⟩, hown9⟩ := hrel
              by_cases hlt9 : 0 < k
              · obtain ⟨k, rfl⟩ : ∃ j, k = j + 1 := ⟨k - 1, by omega⟩
                have hE := bit_e n k hn
                have hN := hid (num_snoc n k W hk2)
                obtain ⟨Y, hY⟩ : ∃ Y, n.testBit k = Y := ⟨_, rfl⟩
                rw [hY] at hE hN
                have hYl := toNat_le1 Y
                obtain ⟨XS, hXS⟩ : ∃ XS, l ++ (zhead j ++ num (n >>> (k + 1)) (W - (k + 1))) = XS := ⟨_, rfl⟩
                rw [hXS] at hown9
                have HXS := hid hXS
                have hxl : XS.length ≤ 2000000 := by
                  have hh := zhead_len (show j ≤ 5 from hr5)
                  rw [← hXS, List.length_append, List.length_append, num_length, hh]; omega
                clear hY hXS
                go_wp2_with (at_builtin; refine wpList_append byte_elem tcs_len tcs_one rfl (.tmp 53) (.tmp 60) rfl (B := B) (xs := [Y]) hown9 rfl rfl (by (try unfold Ov); repeat (first | with_reducible exact ex_over | with_reducible exact over_self _ | with_reducible refine ex_undrew ?_ | with_reducible refine ex_into ?_ _ | with_reducible refine ex_alloc ?_ _ | with_reducible refine ex_drew ?_ | ((with_reducible refine ex_setCell ?_ ?_ _); rotate_left; (first | omega | (focus (simp; done)) | (focus (simp; omega)))) | ((with_reducible refine ex_chg ?_ _ ?_); rotate_left; (first | assumption | (exact Hid.out (by assumption)))) | exact ex_over)) (by (try unfold Ov); repeat (first | with_reducible exact ex_over | with_reducible exact over_self _ | with_reducible refine ex_undrew ?_ | with_reducible refine ex_into ?_ _ | with_reducible refine ex_alloc ?_ _ | with_reducible refine ex_drew ?_ | ((with_reducible refine ex_setCell ?_ ?_ _); rotate_left; (first | omega | (focus (simp; done)) | (focus (simp; omega)))) | ((with_reducible refine ex_chg ?_ _ ?_); rotate_left; (first | assumption | (exact Hid.out (by assumption)))) | exact ex_over)) (by first | assumption | (simp; done) | (simp; omega) | omega) (by first | assumption | (simp; done) | (simp; omega) | omega) (by (repeat with_reducible refine Sl.drew ?_); exact Sl.one_new (y := Y) (by simp; try omega)) (by simp only [List.length_append, List.length_singleton, List.length_nil]; unfold maxLen; omega) (by simp only [List.length_append, List.length_singleton, List.length_nil]; omega) ?_; intro v' x' hown' _ _)
                go_roundw
                case rel =>
                  rw [← HXS.out, List.append_assoc, List.append_assoc, hN.out] at hown'
                  exact ⟨k, by omega, by go_num, (by (try unfold Ov); repeat (first | with_reducible exact ex_over | with_reducible exact over_self _ | with_reducible refine ex_undrew ?_ | with_reducible refine ex_into ?_ _ | with_reducible refine ex_alloc ?_ _ | with_reducible refine ex_drew ?_ | ((with_reducible refine ex_setCell ?_ ?_ _); rotate_left; (first | omega | (focus (simp; done)) | (focus (simp; omega)))) | ((with_reducible refine ex_chg ?_ _ ?_); rotate_left; (first | assumption | (exact Hid.out (by assumption)))) | exact ex_over)), hown'⟩
                case measure => simp [intOf] <;> omega
              · obtain rfl : k = 0 := by omega
                rw [Nat.shiftRight_zero, Nat.sub_zero, ← hz.out, HL.out] at hown9
                obtain ⟨a5, c5, rfl, s5⟩ := Own.slice tcs_len hown9
                go_wp2_with (go_at_call 49; (with_reducible refine (HO.out _ _ _ (by repeat (first | with_reducible exact s5 | with_reducible refine Sl.over ?_ _ | with_reducible refine Sl.alloc ?_ _ | with_reducible refine Sl.drew ?_ | exact s5))).mono ?_); rintro _ _ ⟨⟨e10, rfl⟩, v6, rfl, a6, c6, rfl, ho6⟩)
                (try simp only [Exit.inBlock, Exit.then])
                refine bodyPost_ret (v := ?rv27) ?rh27 rfl ?rp27
                case rh27 => (simp only [results, show Tryd.f54.results = #[.cell 4 29, .tmp 5] from rfl]; go_simp; rfl)
                refine ⟨a6, c6, rfl, (by (try unfold Ov); repeat (first | with_reducible exact OB.out | with_reducible exact OB.out | with_reducible refine ex_undrew ?_ | with_reducible refine ex_into ?_ _ | with_reducible refine ex_alloc ?_ _ | with_reducible refine ex_drew ?_ | ((with_reducible refine ex_setCell ?_ ?_ _); rotate_left; (first | omega | (focus (simp; done)) | (focus (simp; omega)))) | ((with_reducible refine ex_chg ?_ _ ?_); rotate_left; (first | assumption | (exact Hid.out (by assumption)))) | exact ex_over)), ?_⟩
                (repeat with_reducible refine Own.drew ?_)
                exact Own.mono (Own.over_swap ho6 (by first | exact Nat.le_refl _ | rfl | omega | (simp; done) | (simp; omega)) (by first | exact Nat.le_refl _ | rfl | omega | (simp; done) | (simp; omega))) (by first | exact Nat.le_refl _ | rfl | omega | (simp; done) | (simp; omega))
end Go.Proofs.YthljlajdkdgieaaDoor
