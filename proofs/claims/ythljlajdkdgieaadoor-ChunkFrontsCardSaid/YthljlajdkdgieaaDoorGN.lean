/- Texts merged: RefG, RefC. -/
import Derived.Test.YthljlajdkdgieaaDoorGB
import Derived.Test.YthljlajdkdgieaaDoorGA
namespace Go.Proofs.YthljlajdkdgieaaDoor
set_option linter.unusedVariables false
set_option linter.unusedSimpArgs false
open Go.RowKit

abbrev rgetV (p : Nat × Nat) : Value := .tuple #[.int .u64 (p.1 : Nat), .int .i64 (p.2 : Nat)]

set_option maxRecDepth 100000 in
set_option maxHeartbeats 2000000 in
theorem rget_no (l : List Bool) (hl : l.length ≤ 900000) (at_ : Int) (hat : -9223372036854775808 ≤ at_ ∧ at_ ≤ 9223372036854775807) (W : Nat) (hW : W ≤ 64) (a : Option Addr) (cap : Nat) (w : World) (hs : SlB w a cap (pack l)) (hn : ¬ (0 ≤ at_ ∧ at_ + W ≤ l.length)) :
    Calls Tryd.prog 65 #[bv a (pack l).length cap l.length, .int .i64 at_, .int .i64 (W : Nat)] w (Ret w (rgetV (getN l at_ W))) := by
  have HS := hid (fun W hW => rsound_any (pack l) pack_lt (pack_len_le (by omega)) l.length (by omega) a cap W hW)
  rw [sound_pack] at HS
  rw [show getN l at_ W = (0, 10) by unfold getN; rw [if_neg hn]]
  obtain ⟨ha1, ha2⟩ := hat
  by_cases h0 : at_ < 0
  · clear hn
    go_enter Tryd.func65, Tryd.ntmps65
    go_wp2_with (go_at_call 46; (with_reducible refine (HS.out _ (by repeat (first | with_reducible exact hs | with_reducible refine Sl.over ?_ _ | with_reducible refine Sl.alloc ?_ _ | with_reducible refine Sl.drew ?_ | exact hs))).mono ?_); rintro _ _ ⟨⟨e1, rfl⟩, rfl⟩)
    go_ret2
    exact ⟨(by (try unfold Ov); repeat (first | with_reducible exact ex_over | with_reducible exact over_self _ | with_reducible refine ex_undrew ?_ | with_reducible refine ex_into ?_ _ | with_reducible refine ex_alloc ?_ _ | with_reducible refine ex_drew ?_ | ((with_reducible refine ex_setCell ?_ ?_ _); rotate_left; (first | omega | (focus (simp; done)) | (focus (simp; omega)))) | ((with_reducible refine ex_chg ?_ _ ?_); rotate_left; (first | assumption | (exact Hid.out (by assumption)))) | exact ex_over)), rfl⟩
  · have h0' : 0 ≤ at_ := by omega
    by_cases h1 : (l.length : Int) < at_
    · clear hn h0
      go_enter Tryd.func65, Tryd.ntmps65
      go_wp2_with (go_at_call 46; (with_reducible refine (HS.out _ (by repeat (first | with_reducible exact hs | with_reducible refine Sl.over ?_ _ | with_reducible refine Sl.alloc ?_ _ | with_reducible refine Sl.drew ?_ | exact hs))).mono ?_); rintro _ _ ⟨⟨e1, rfl⟩, rfl⟩)
      go_ret2
      exact ⟨(by (try unfold Ov); repeat (first | with_reducible exact ex_over | with_reducible exact over_self _ | with_reducible refine ex_undrew ?_ | with_reducible refine ex_into ?_ _ | with_reducible refine ex_alloc ?_ _ | with_reducible refine ex_drew ?_ | ((with_reducible refine ex_setCell ?_ ?_ _); rotate_left; (first | omega | (focus (simp; done)) | (focus (simp; omega)))) | ((with_reducible refine ex_chg ?_ _ ?_); rotate_left; (first | assumption | (exact Hid.out (by assumption)))) | exact ex_over)), rfl⟩
    · have h2 : (l.length : Int) - at_ < (W : Int) := by omega
      have h1' : at_ ≤ (l.length : Int) := by omega
      clear hn h0 h1
      go_enter Tryd.func65, Tryd.ntmps65
      go_wp2_with (go_at_call 46; (with_reducible refine (HS.out _ (by repeat (first | with_reducible exact hs | with_reducible refine Sl.over ?_ _ | with_reducible refine Sl.alloc ?_ _ | with_reducible refine Sl.drew ?_ | exact hs))).mono ?_); rintro _ _ ⟨⟨e1, rfl⟩, rfl⟩)
      go_ret2
      exact ⟨(by (try unfold Ov); repeat (first | with_reducible exact ex_over | with_reducible exact over_self _ | with_reducible refine ex_undrew ?_ | with_reducible refine ex_into ?_ _ | with_reducible refine ex_alloc ?_ _ | with_reducible refine ex_drew ?_ | ((with_reducible refine ex_setCell ?_ ?_ _); rotate_left; (first | omega | (focus (simp; done)) | (focus (simp; omega)))) | ((with_reducible refine ex_chg ?_ _ ?_); rotate_left; (first | assumption | (exact Hid.out (by assumption)))) | exact ex_over)), rfl⟩

theorem cut_snoc {l : List Bool} {i k : Nat} (hk : i + k < l.length) : (l.drop i).take k ++ [l[i + k]] = (l.drop i).take (k + 1) := by
  rw [List.take_add_one, List.getElem?_drop, List.getElem?_eq_getElem hk]; rfl
theorem val_snoc (l : List Bool) (b : Bool) : val (l ++ [b]) = 2 * val l + b.toNat := by
  rw [val_append]; cases b <;> simp [val] <;> omega

set_option maxRecDepth 100000 in
set_option maxHeartbeats 2000000 in
theorem rget_yes (l : List Bool) (hl : l.length ≤ 900000) (i : Nat) (W : Nat) (hW : W ≤ 64) (a : Option Addr) (cap : Nat) (w : World) (hs : SlB w a cap (pack l)) (hn : i + W ≤ l.length) :
    Calls Tryd.prog 65 #[bv a (pack l).length cap l.length, .int .i64 (i : Nat), .int .i64 (W : Nat)] w (Ret w (.tuple #[.int .u64 (val ((l.drop i).take W) : Nat), .int .i64 0])) := by
  have HS := hid (fun W hW => rsound_any (pack l) pack_lt (pack_len_le (by omega)) l.length (by omega) a cap W hW)
  rw [sound_pack] at HS
  have d1 : decide ((64 : Int) < (W : Int)) = false := decide_eq_false (by omega)
  have d2 : decide ((W : Int) < 0) = false := decide_eq_false (by omega)
  have d3 : decide ((l.length : Int) - (i : Int) < (W : Int)) = false := decide_eq_false (by omega)
  have d4 : decide ((i : Int) < 0) = false := decide_eq_false (by omega)
  have d5 : decide (l.length < i) = false := decide_eq_false (by omega)
  have HB := hid (fun k hk W hW => rbit_l l k hk (by omega) l.length a cap W hW)
  go_enter Tryd.func65, Tryd.ntmps65
  go_wp2_with (go_at_call 46; (with_reducible refine (HS.out _ (by repeat (first | with_reducible exact hs | with_reducible refine Sl.over ?_ _ | with_reducible refine Sl.alloc ?_ _ | with_reducible refine Sl.drew ?_ | exact hs))).mono ?_); rintro _ _ ⟨⟨e1, rfl⟩, rfl⟩)
  go_loopw [9, 10] (fun v f wr => ∃ (k : Nat), k ≤ W ∧ f = .int .i64 ((i + k : Nat) : Int) ∧ v = .int .u64 (val ((l.drop i).take k) : Nat) ∧ Ov (over (w.alloc (.cells #[.slice a (pack l).length cap, .int .i64 l.length] 29)) e1) wr) (fun _ f _ => i + W - (intOf f).toNat)
  case atStart =>
    exact ⟨0, Nat.zero_le _, rfl, rfl, (by (try unfold Ov); repeat (first | with_reducible exact ex_over | with_reducible exact over_self _ | with_reducible refine ex_undrew ?_ | with_reducible refine ex_into ?_ _ | with_reducible refine ex_alloc ?_ _ | with_reducible refine ex_drew ?_ | ((with_reducible refine ex_setCell ?_ ?_ _); rotate_left; (first | omega | (focus (simp; done)) | (focus (simp; omega)))) | ((with_reducible refine ex_chg ?_ _ ?_); rotate_left; (first | assumption | (exact Hid.out (by assumption)))) | exact ex_over))⟩
  case round =>
    obtain ⟨k, hk, rfl, rfl, ⟨e, rfl⟩⟩ := hrel
    by_cases hlt : k < W
    · have hik : i + k < l.length := by omega
      have hvl := val_lt ((l.drop i).take k)
      rw [List.length_take] at hvl
      have hsn := hid (val_snoc ((l.drop i).take k) l[i + k])
      rw [cut_snoc hik] at hsn
      have hv63 : val ((l.drop i).take k) < 9223372036854775808 := Nat.lt_of_lt_of_le hvl (by rw [show 9223372036854775808 = 2 ^ 63 from rfl]; exact Nat.pow_le_pow_right (by omega) (by omega))
      clear hvl
      have HBk := hid (fun W hW => HB.out (i + k) hik W hW)
      have hb1 := toNat_le1 l[i + k]
      obtain ⟨B, hB⟩ : ∃ B, l[i + k].toNat = B := ⟨_, rfl⟩
      rw [hB] at HBk hsn hb1
      obtain ⟨V, hV⟩ : ∃ V, val ((l.drop i).take k) = V := ⟨_, rfl⟩
      rw [hV] at hsn hv63 ⊢
      obtain ⟨J, hJ⟩ : ∃ J, i + k = J := ⟨_, rfl⟩
      rw [hJ] at HBk ⊢
      have hJl : J < i + W := by omega
      have hJm : J ≤ 900000 := by omega
      clear hB hV
      go_wp2_with (go_at_call 63; (with_reducible refine (HBk.out _ (by repeat (first | with_reducible exact hs | with_reducible refine Sl.over ?_ _ | with_reducible refine Sl.alloc ?_ _ | with_reducible refine Sl.drew ?_ | exact hs))).mono ?_); rintro _ _ ⟨⟨e2, rfl⟩, rfl⟩)
      go_roundw
      case rel =>
        refine ⟨k + 1, by omega, ?_, ?_, (by (try unfold Ov); repeat (first | with_reducible exact ex_over | with_reducible exact over_self _ | with_reducible refine ex_undrew ?_ | with_reducible refine ex_into ?_ _ | with_reducible refine ex_alloc ?_ _ | with_reducible refine ex_drew ?_ | ((with_reducible refine ex_setCell ?_ ?_ _); rotate_left; (first | omega | (focus (simp; done)) | (focus (simp; omega)))) | ((with_reducible refine ex_chg ?_ _ ?_); rotate_left; (first | assumption | (exact Hid.out (by assumption)))) | exact ex_over))⟩
        · go_num
        · rw [hsn.out]; go_num
      case measure => simp [intOf]; omega
    · obtain rfl : k = W := by omega
      go_wp2
      go_ret2
      exact ⟨(by (try unfold Ov); repeat (first | with_reducible exact ex_over | with_reducible exact over_self _ | with_reducible refine ex_undrew ?_ | with_reducible refine ex_into ?_ _ | with_reducible refine ex_alloc ?_ _ | with_reducible refine ex_drew ?_ | ((with_reducible refine ex_setCell ?_ ?_ _); rotate_left; (first | omega | (focus (simp; done)) | (focus (simp; omega)))) | ((with_reducible refine ex_chg ?_ _ ?_); rotate_left; (first | assumption | (exact Hid.out (by assumption)))) | exact ex_over)), rfl⟩

theorem rget_any (l : List Bool) (hl : l.length ≤ 900000) (at_ : Int) (hat : -9223372036854775808 ≤ at_ ∧ at_ ≤ 9223372036854775807) (W : Nat) (hW : W ≤ 64) (a : Option Addr) (cap : Nat) (w : World) (hs : SlB w a cap (pack l)) :
    Calls Tryd.prog 65 #[bv a (pack l).length cap l.length, .int .i64 at_, .int .i64 (W : Nat)] w (Ret w (rgetV (getN l at_ W))) := by
  by_cases hn : 0 ≤ at_ ∧ at_ + W ≤ l.length
  · obtain ⟨i, rfl⟩ : ∃ i : Nat, at_ = i := ⟨at_.toNat, by omega⟩
    rw [show getN l i W = (val ((l.drop i).take W), 0) by unfold getN; rw [if_pos hn, Int.toNat_natCast]]
    exact rget_yes l hl i W hW a cap w hs (by omega)
  · exact rget_no l hl at_ hat W hW a cap w hs hn
end Go.Proofs.YthljlajdkdgieaaDoor
namespace Go.Proofs.YthljlajdkdgieaaDoor
set_option linter.unusedVariables false
set_option linter.unusedSimpArgs false
open Go.RowKit

/-- New bits, and no error. -/
def RcPost (w : World) (L : List Bool) (en : Ending) (w' : World) : Prop :=
  ∃ a c, en = .returned (.tuple #[bv a (pack L).length c L.length, .int .i64 0]) ∧ (∃ e, w' = over w e) ∧ SlB w' a c (pack L)

set_option maxRecDepth 100000 in
set_option maxHeartbeats 2000000 in
theorem rcut_any (l : List Bool) (hl : l.length ≤ 900000) (i n : Nat) (hin : i + n ≤ l.length) (a : Option Addr) (cap : Nat) (w : World) (hs : SlB w a cap (pack l)) :
    Calls Tryd.prog 33 #[bv a (pack l).length cap l.length, .int .i64 (i : Nat), .int .i64 ((i + n : Nat) : Int)] w (RcPost w ((l.drop i).take n)) := by
  have HS := hid (fun W hW => rsound_any (pack l) pack_lt (pack_len_le (by omega)) l.length (by omega) a cap W hW)
  rw [sound_pack] at HS
  have hR := hid (fun k hk W hW => rbit_l l k hk (by omega) l.length a cap W hW)
  obtain ⟨L, hL⟩ : ∃ L, (l.drop i).take n = L := ⟨_, rfl⟩
  have hLl : L.length ≤ 1000000 := by rw [← hL, List.length_take, List.length_drop]; omega
  have HO := hid (fun a cap W hW => rof_any L hLl a cap W hW)
  rw [hL]
  have HL := hid hL
  clear hL
  go_enter Tryd.func33, Tryd.ntmps33
  go_wp2_with (go_at_call 46; (with_reducible refine (HS.out _ (by repeat (first | with_reducible exact hs | with_reducible refine Sl.over ?_ _ | with_reducible refine Sl.alloc ?_ _ | with_reducible refine Sl.drew ?_ | exact hs))).mono ?_); rintro _ _ ⟨⟨e1, rfl⟩, rfl⟩)
  go_loopw [9, 10] (fun o f wr => ∃ (k : Nat), k ≤ n ∧ f = .int .i64 ((i + k : Nat) : Int) ∧ Ov (over ((w.alloc (.cells #[.slice a (pack l).length cap, .int .i64 l.length] 29)).alloc (.cells #[.slice none 0 0, .int .i64 0] 29)) e1) wr ∧ OwnT (over ((w.alloc (.cells #[.slice a (pack l).length cap, .int .i64 l.length] 29)).alloc (.cells #[.slice none 0 0, .int .i64 0] 29)) e1).heap.size wr o ((l.drop i).take k)) (fun _ f _ => i + n - (intOf f).toNat)
  case atStart =>
    exact ⟨0, Nat.zero_le _, rfl, (by (try unfold Ov); repeat (first | with_reducible exact ex_over | with_reducible exact over_self _ | with_reducible refine ex_undrew ?_ | with_reducible refine ex_into ?_ _ | with_reducible refine ex_alloc ?_ _ | with_reducible refine ex_drew ?_ | ((with_reducible refine ex_setCell ?_ ?_ _); rotate_left; (first | omega | (focus (simp; done)) | (focus (simp; omega)))) | ((with_reducible refine ex_chg ?_ _ ?_); rotate_left; (first | assumption | (exact Hid.out (by assumption)))) | exact ex_over)), Own.nil _⟩
  case round =>
    obtain ⟨k, hk, rfl, ⟨e, rfl⟩, hown⟩ := hrel
    by_cases hlt : k < n
    · have hik : i + k < l.length := by omega
      have htk : ((l.drop i).take k).length ≤ 900000 := by rw [List.length_take, List.length_drop]; omega
      have HBk := hid (fun W hW => hR.out (i + k) hik W hW)
      have hsn := hid (cut_snoc hik)
      obtain ⟨B, hB⟩ : ∃ B, l[i + k] = B := ⟨_, rfl⟩
      rw [hB] at HBk hsn
      obtain ⟨J, hJ⟩ : ∃ J, i + k = J := ⟨_, rfl⟩
      rw [hJ] at HBk ⊢
      have hJl : J < i + n := by omega
      have hJm : J ≤ 900000 := by omega
      obtain ⟨K, hK⟩ : ∃ K, (l.drop i).take k = K := ⟨_, rfl⟩
      rw [hK] at hown htk hsn
      clear hB hK
      go_wp2_with (first | (go_at_call 63; (with_reducible refine (HBk.out _ (by repeat (first | with_reducible exact hs | with_reducible refine Sl.over ?_ _ | with_reducible refine Sl.alloc ?_ _ | with_reducible refine Sl.drew ?_ | exact hs))).mono ?_); rintro _ _ ⟨⟨e2, rfl⟩, rfl⟩) | (at_builtin; refine wpList_append byte_elem tcs_len tcs_one rfl (.tmp 36) (.tmp 40) rfl (B := over ((w.alloc (.cells #[.slice a (pack l).length cap, .int .i64 l.length] 29)).alloc (.cells #[.slice none 0 0, .int .i64 0] 29)) e1) (xs := [B]) hown rfl rfl (by (try unfold Ov); repeat (first | with_reducible exact ex_over | with_reducible exact over_self _ | with_reducible refine ex_undrew ?_ | with_reducible refine ex_into ?_ _ | with_reducible refine ex_alloc ?_ _ | with_reducible refine ex_drew ?_ | ((with_reducible refine ex_setCell ?_ ?_ _); rotate_left; (first | omega | (focus (simp; done)) | (focus (simp; omega)))) | ((with_reducible refine ex_chg ?_ _ ?_); rotate_left; (first | assumption | (exact Hid.out (by assumption)))) | exact ex_over)) (by (try unfold Ov); repeat (first | with_reducible exact ex_over | with_reducible exact over_self _ | with_reducible refine ex_undrew ?_ | with_reducible refine ex_into ?_ _ | with_reducible refine ex_alloc ?_ _ | with_reducible refine ex_drew ?_ | ((with_reducible refine ex_setCell ?_ ?_ _); rotate_left; (first | omega | (focus (simp; done)) | (focus (simp; omega)))) | ((with_reducible refine ex_chg ?_ _ ?_); rotate_left; (first | assumption | (exact Hid.out (by assumption)))) | exact ex_over)) (by first | assumption | (simp; done) | (simp; omega) | omega) (by first | assumption | (simp; done) | (simp; omega) | omega) (by (repeat with_reducible refine Sl.drew ?_); exact Sl.one_new (y := B) (by simp; try omega)) (by simp only [List.length_append, List.length_singleton, List.length_nil]; unfold maxLen; omega) (by simp only [List.length_append, List.length_singleton, List.length_nil]; omega) ?_; intro v' x' hown' _ _))
      go_roundw
      case rel =>
        rw [hsn.out] at hown'
        exact ⟨k + 1, by omega, by go_num, (by (try unfold Ov); repeat (first | with_reducible exact ex_over | with_reducible exact over_self _ | with_reducible refine ex_undrew ?_ | with_reducible refine ex_into ?_ _ | with_reducible refine ex_alloc ?_ _ | with_reducible refine ex_drew ?_ | ((with_reducible refine ex_setCell ?_ ?_ _); rotate_left; (first | omega | (focus (simp; done)) | (focus (simp; omega)))) | ((with_reducible refine ex_chg ?_ _ ?_); rotate_left; (first | assumption | (exact Hid.out (by assumption)))) | exact ex_over)), hown'⟩
      case measure => simp [intOf]; omega
    · obtain rfl : k = n := by omega
      rw [HL.out] at hown
      obtain ⟨a5, c5, rfl, s5⟩ := Own.slice tcs_len hown
      go_wp2_with (go_at_call 49; (with_reducible refine (HO.out _ _ _ (by repeat (first | with_reducible exact s5 | with_reducible refine Sl.over ?_ _ | with_reducible refine Sl.alloc ?_ _ | with_reducible refine Sl.drew ?_ | exact s5))).mono ?_); rintro _ _ ⟨⟨e6, rfl⟩, v6, rfl, a6, c6, rfl, ho6⟩)
      (try simp only [Exit.inBlock, Exit.then])
      refine bodyPost_ret (v := ?rv65) ?rh65 rfl ?rp65
      case rh65 => (simp only [results, show Tryd.f33.results = #[.cell 6 29, .tmp 7] from rfl]; go_simp; rfl)
      refine ⟨a6, c6, rfl, (by (try unfold Ov); repeat (first | with_reducible exact ex_over | with_reducible exact over_self _ | with_reducible refine ex_undrew ?_ | with_reducible refine ex_into ?_ _ | with_reducible refine ex_alloc ?_ _ | with_reducible refine ex_drew ?_ | ((with_reducible refine ex_setCell ?_ ?_ _); rotate_left; (first | omega | (focus (simp; done)) | (focus (simp; omega)))) | ((with_reducible refine ex_chg ?_ _ ?_); rotate_left; (first | assumption | (exact Hid.out (by assumption)))) | exact ex_over)), ?_⟩
      (repeat with_reducible refine Sl.drew ?_)
      exact (Own.slice' bcs_len (Own.over_swap ho6 (by first | exact Nat.le_refl _ | rfl | omega | (simp; done) | (simp; omega)) (by first | exact Nat.le_refl _ | rfl | omega | (simp; done) | (simp; omega)))).2
end Go.Proofs.YthljlajdkdgieaaDoor
