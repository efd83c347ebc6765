/- Walks: the document's Cut of bits. -/
import Derived.Test.YthljlajdkdgieaaDoorRefG
namespace Go.Proofs.YthljlajdkdgieaaDoor
set_option linter.unusedVariables false
set_option linter.unusedSimpArgs false
open Go.RowKit

/-- New bits, and no error. -/
def RcPost (w : World) (L : List Bool) (en : Ending) (w' : World) : Prop :=
  ∃ a c, en = .returned (.tuple #[bv a (pack L).length c L.length, .int .i64 0]) ∧ (∃ e, w' = over w e) ∧ SlB w' a c (pack L)

set_option maxRecDepth 100000 in
set_option maxHeartbeats 2000000 in
theorem rcut_any (l : List Bool) (hl : l.length ≤ 900000) (i n : Nat) (hin : i + n ≤ l.length) (a : Option Addr) (cap : Nat) (w : World) (hs : SlB w a cap (pack l)) :
    Calls Tryd.prog 33 #[bv a (pack l).length cap l.length, .int .i64 (i : Nat), .int .i64 ((i + n : Nat) : Int)] w (RcPost w ((l.drop i).take n)) := by
  have HS := hid (fun W hW => rsound_any (pack l) pack_lt (pack_len_le (by omega)) l.length (by omega) a cap W hW)
  rw [sound_pack] at HS
  have hR := hid (fun k hk W hW => rbit_l l k hk (by omega) l.length a cap W hW)
  obtain ⟨L, hL⟩ : ∃ L, (l.drop i).take n = L := ⟨_, rfl⟩
  have hLl : L.length ≤ 1000000 := by rw [← hL, List.length_take, List.length_drop]; omega
  have HO := hid (fun a cap W hW => rof_any L hLl a cap W hW)
  rw [hL]
  have HL := hid hL
  clear hL
  go_enter Tryd.func33, Tryd.ntmps33
  go_wp2_with (go_at_call 46; (with_reducible refine (HS.out _ (by repeat (first | with_reducible exact hs | with_reducible refine Sl.over ?_ _ | with_reducible refine Sl.alloc ?_ _ | with_reducible refine Sl.drew ?_ | exact hs))).mono ?_); rintro _ _ ⟨⟨e1, rfl⟩, rfl⟩)
  go_loopw [9, 10] (fun o f wr => ∃ (k : Nat), k ≤ n ∧ f = .int .i64 ((i + k : Nat) : Int) ∧ Ov (over ((w.alloc (.cells #[.slice a (pack l).length cap, .int .i64 l.length] 29)).alloc (.cells #[.slice none 0 0, .int .i64 0] 29)) e1) wr ∧ OwnT (over ((w.alloc (.cells #[.slice a (pack l).length cap, .int .i64 l.length] 29)).alloc (.cells #[.slice none 0 0, .int .i64 0] 29)) e1).heap.size wr o ((l.drop i).take k)) (fun _ f _ => i + n - (intOf f).toNat)
  case atStart =>
    exact ⟨0, Nat.zero_le _, rfl, (by (try unfold Ov); repeat (first | with_reducible exact ex_over | with_reducible exact over_self _ | with_reducible refine ex_undrew ?_ | with_reducible refine ex_into ?_ _ | with_reducible refine ex_alloc ?_ _ | with_reducible refine ex_drew ?_ | ((with_reducible refine ex_setCell ?_ ?_ _); rotate_left; (first | omega | (focus (simp; done)) | (focus (simp; omega)))) | ((with_reducible refine ex_chg ?_ _ ?_); rotate_left; (first | assumption | (exact Hid.out (by assumption)))) | exact ex_over)), Own.nil _⟩
  case round =>
    obtain ⟨k, hk, rfl, ⟨e, rfl⟩, hown⟩ := hrel
    by_cases hlt : k < n
    · have hik : i + k < l.length := by omega
      have htk : ((l.drop i).take k).length ≤ 900000 := by rw [List.length_take, List.length_drop]; omega
      have HBk := hid (fun W hW => hR.out (i + k) hik W hW)
      have hsn := hid (cut_snoc hik)
      obtain ⟨B, hB⟩ : ∃ B, l[i + k] = B := ⟨_, rfl⟩
      rw [hB] at HBk hsn
      obtain ⟨J, hJ⟩ : ∃ J, i + k = J := ⟨_, rfl⟩
      rw [hJ] at HBk ⊢
      have hJl : J < i + n := by omega
      have hJm : J ≤ 900000 := by omega
      obtain ⟨K, hK⟩ : ∃ K, (l.drop i).take k = K := ⟨_, rfl⟩
      rw [hK] at hown htk hsn
      clear hB hK
      go_wp2_with (first | (go_at_call 63; (with_reducible refine (HBk.out _ (by repeat (first | with_reducible exact hs | with_reducible refine Sl.over ?_ _ | with_reducible refine Sl.alloc ?_ _ | with_reducible refine Sl.drew ?_ | exact hs))).mono ?_); rintro _ _ ⟨⟨e2, rfl⟩, rfl⟩) | (at_builtin; refine wpList_append byte_elem tcs_len tcs_one rfl (.tmp 36) (.tmp 40) rfl (B := over ((w.alloc (.cells #[.slice a (pack l).length cap, .int .i64 l.length] 29)).alloc (.cells #[.slice none 0 0, .int .i64 0] 29)) e1) (xs := [B]) hown rfl rfl (by (try unfold Ov); repeat (first | with_reducible exact ex_over | with_reducible exact over_self _ | with_reducible refine ex_undrew ?_ | with_reducible refine ex_into ?_ _ | with_reducible refine ex_alloc ?_ _ | with_reducible refine ex_drew ?_ | ((with_reducible refine ex_setCell ?_ ?_ _); rotate_left; (first | omega | (focus (simp; done)) | (focus (simp; omega)))) | ((with_reducible refine ex_chg ?_ _ ?_); rotate_left; (first | assumption | (exact Hid.out (by assumption)))) | exact ex_over)) (by (try unfold Ov); repeat (first | with_reducible exact ex_over | with_reducible exact over_self _ | with_reducible refine ex_undrew ?_ | with_reducible refine ex_into ?_ _ | with_reducible refine ex_alloc ?_ _ | with_reducible refine ex_drew ?_ | ((with_reducible refine ex_setCell ?_ ?_ _); rotate_left; (first | omega | (focus (simp; done)) | (focus (simp; omega)))) | ((with_reducible refine ex_chg ?_ _ ?_); rotate_left; (first | assumption | (exact Hid.out (by assumption)))) | exact ex_over)) (by first | assumption | (simp; done) | (simp; omega) | omega) (by first | assumption | (simp; done) | (simp; omega) | omega) (by (repeat with_reducible refine Sl.drew ?_); exact Sl.one_new (y := B) (by simp; try omega)) (by simp only [List.length_append, List.length_singleton, List.length_nil]; unfold maxLen; omega) (by simp only [List.length_append, List.length_singleton, List.length_nil]; omega) ?_; intro v' x' hown' _ _))
      go_roundw
      case rel =>
        rw [hsn.out] at hown'
        exact ⟨k + 1, by omega, by go_num, (by (try unfold Ov); repeat (first | with_reducible exact ex_over | with_reducible exact over_self _ | with_reducible refine ex_undrew ?_ | with_reducible refine ex_into ?_ _ | with_reducible refine ex_alloc ?_ _ | with_reducible refine ex_drew ?_ | ((with_reducible refine ex_setCell ?_ ?_ _); rotate_left; (first | omega | (focus (simp; done)) | (focus (simp; omega)))) | ((with_reducible refine ex_chg ?_ _ ?_); rotate_left; (first | assumption | (exact Hid.out (by assumption)))) | exact ex_over)), hown'⟩
      case measure => simp [intOf]; omega
    · obtain rfl : k = n := by omega
      rw [HL.out] at hown
      obtain ⟨a5, c5, rfl, s5⟩ := Own.slice tcs_len hown
      go_wp2_with (go_at_call 49; (with_reducible refine (HO.out _ _ _ (by repeat (first | with_reducible exact s5 | with_reducible refine Sl.over ?_ _ | with_reducible refine Sl.alloc ?_ _ | with_reducible refine Sl.drew ?_ | exact s5))).mono ?_); rintro _ _ ⟨⟨e6, rfl⟩, v6, rfl, a6, c6, rfl, ho6⟩)
      (try simp only [Exit.inBlock, Exit.then])
      refine bodyPost_ret (v := ?rv24) ?rh24 rfl ?rp24
      case rh24 => (simp only [results, show Tryd.f33.results = #[.cell 6 29, .tmp 7] from rfl]; go_simp; rfl)
      refine ⟨a6, c6, rfl, (by (try unfold Ov); repeat (first | with_reducible exact ex_over | with_reducible exact over_self _ | with_reducible refine ex_undrew ?_ | with_reducible refine ex_into ?_ _ | with_reducible refine ex_alloc ?_ _ | with_reducible refine ex_drew ?_ | ((with_reducible refine ex_setCell ?_ ?_ _); rotate_left; (first | omega | (focus (simp; done)) | (focus (simp; omega)))) | ((with_reducible refine ex_chg ?_ _ ?_); rotate_left; (first | assumption | (exact Hid.out (by assumption)))) | exact ex_over)), ?_⟩
      (repeat with_reducible refine Sl.drew ?_)
      exact (Own.slice' bcs_len (Own.over_swap ho6 (by first | exact Nat.le_refl _ | rfl | omega | (simp; done) | (simp; omega)) (by first | exact Nat.le_refl _ | rfl | omega | (simp; done) | (simp; omega)))).2
end Go.Proofs.YthljlajdkdgieaaDoor
