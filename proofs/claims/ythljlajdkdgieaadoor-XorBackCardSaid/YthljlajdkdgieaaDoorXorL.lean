/- Walks: XorGets, XorOnly. -/
import Derived.Test.YthljlajdkdgieaaDoorXorJ
import Derived.Test.YthljlajdkdgieaaDoorXorK
import Derived.Test.YthljlajdkdgieaaDoorRefC
namespace Go.Proofs.YthljlajdkdgieaaDoor
set_option linter.unusedVariables false
set_option linter.unusedSimpArgs false
open Go.RowKit
attribute [local go_sem] over_drew

theorem getX_lt {l : List Bool} {at_ : Int} {s : Vl} (hs : s.wf) : (getX l at_ s).1 < 18446744073709551616 := by
  unfold getX
  split
  · exact Nat.zero_lt_succ _
  split
  · exact Nat.zero_lt_succ _
  split
  · exact valueX_lt hs
  · exact Nat.zero_lt_succ _
theorem getX_zero {l : List Bool} {at_ : Int} {s : Vl} (h : (getX l at_ s).2.2.2 ≠ 0) : getX l at_ s = (0, 0, Vl.zero, (getX l at_ s).2.2.2) := by
  unfold getX at *
  split
  · rfl
  rename_i h1
  rw [if_neg h1] at h
  split
  · rfl
  rename_i h2
  rw [if_neg h2] at h
  split
  · rename_i h3; rw [if_pos h3] at h; exact absurd rfl h
  · rfl

theorem valueX_e (l : List Bool) (at_ : Int) (s : Vl) : (valueX l at_ s).2.2 ≤ 30 := by
  have hg : ∀ a W, (getN l a W).2 ≤ 30 := fun a W => by rcases getN_err l a W with h | h <;> rw [h] <;> decide
  unfold valueX
  repeat' split
  all_goals first | exact hg _ _ | exact Nat.le_refl _ | exact Nat.zero_le _
theorem getX_e (l : List Bool) (at_ : Int) (s : Vl) : (getX l at_ s).2.2.2 ≤ 30 := by
  unfold getX
  split
  · show 10 ≤ 30; decide
  split
  · exact valueX_e l at_ s
  split
  · exact Nat.zero_le _
  · exact Nat.le_refl _
theorem wrongX_e (a b : Bool) : wrongX a b ≤ 30 := by cases a <;> cases b <;> decide

set_option maxRecDepth 100000 in
set_option maxHeartbeats 4000000 in
theorem xorGets_any (bs : List Nat) (hbs : ∀ b ∈ bs, b < 256) (N : Int) (hN : -9223372036854775808 ≤ N ∧ N ≤ 9223372036854775807) (a : Option Addr) (cap : Nat) (at_ : Int) (hat : -9223372036854775808 ≤ at_ ∧ at_ ≤ 9223372036854775807) (s : Vl) (hs : s.wf) (w : World) (hT : TabW w) (hb : SlB w a cap bs) :
    Calls Tryd.prog 9 #[bv a bs.length cap N, .int .i64 at_, s.v] w (Ret w (.bool true)) := by
  have HK := hid (fun W hW => known03_any W hW)
  have hmax := len_max hb
  by_cases hlen : (500 : Int) < (bs.length : Int)
  · obtain ⟨hs1, hs2, hs3⟩ := hs
    go_enter Tryd.func9, Tryd.ntmps9
    go_wp2_with (go_at_call 18; (with_reducible refine (HK.out _ (by repeat (first | with_reducible exact hT | with_reducible refine TabW.over ?_ _ | with_reducible refine TabW.alloc ?_ _ | with_reducible refine TabW.drew ?_ | ((with_reducible refine TabW.setCell ?_ ?_ _); rotate_left; (first | (focus (simp; done)) | (focus (simp; omega)))) | ((with_reducible refine TabW.chg ?_ _ ?_); rotate_left; (first | assumption | (focus (simp; done)) | (focus (simp; omega)))) | exact hT))).mono ?_); rintro _ _ ⟨⟨e1, rfl⟩, rfl⟩)
    go_ret
    exact ⟨(by (try unfold Ov); repeat (first | with_reducible exact ex_over | with_reducible exact over_self _ | with_reducible refine ex_undrew ?_ | with_reducible refine ex_into ?_ _ | with_reducible refine ex_alloc ?_ _ | with_reducible refine ex_drew ?_ | ((with_reducible refine ex_setCell ?_ ?_ _); rotate_left; (first | omega | (focus (simp; done)) | (focus (simp; omega)))) | ((with_reducible refine ex_chg ?_ _ ?_); rotate_left; (first | assumption | (exact Hid.out (by assumption)))) | exact ex_over)), rfl⟩
  have hl : bs.length ≤ 1000000 := by omega
  have hG : ∃ (v : Nat) (n : Int) (t : Vl) (e : Nat), e ≤ 30 ∧ (∀ W, TabW W → SlB W a cap bs → Calls Tryd.prog 31 #[bv a bs.length cap N, .int .i64 at_, s.v] W (Ret W (xgV v n t e))) ∧ (∀ W, SlB W a cap bs → Calls Tryd.prog 32 #[bv a bs.length cap N, .int .i64 at_, s.v] W (Ret W (rxgV v n t e))) := by
    by_cases hn : wrongX (soundB bs N) (soundV s) = 0
    · have hg1 : soundB bs N = true := by
        cases g : soundB bs N
        · rw [g] at hn; simp [wrongX] at hn
        · rfl
      have hg2 : soundV s = true := by
        cases g : soundV s
        · rw [g, hg1] at hn; simp [wrongX] at hn
        · rfl
      obtain ⟨l, rfl, rfl⟩ := sound_list hbs hg1
      have hll : l.length ≤ 800000 := by rw [pack_length] at hlen; unfold nb at hlen; omega
      exact ⟨_, _, _, _, getX_e l at_ s, fun W h1 h2 => xget_yes l hll a cap at_ hat s hs hg2 W h1 h2, fun W h1 => rxget_yes l hll a cap at_ hat s hs hg2 W h1⟩
    · exact ⟨_, _, _, _, wrongX_e _ _, fun W h1 h2 => xget_no bs hbs hl N hN a cap at_ s hs W h2 hn, fun W h1 => rxget_no bs hbs hl N hN a cap at_ s hs W h1 hn⟩
  obtain ⟨v, n, t, e, he30, h1, h2⟩ := hG
  have he31 : (e : Int) ≤ 30 := by omega
  have HX := hid h1
  have HR := hid h2
  clear h1 h2
  obtain ⟨th, tp, tl, tw⟩ := t
  obtain ⟨hs1, hs2, hs3⟩ := hs
  have HX' : Hid (∀ W, TabW W → SlB W a cap bs → Calls Tryd.prog 31 #[bv a bs.length cap N, .int .i64 at_, s.v] W (Ret W (.tuple #[.int .u64 (v : Nat), .int .i64 n, .agg #[.bool th, .int .u64 (tp : Nat), .int .u8 (tl : Nat), .int .u8 (tw : Nat)], .int .u16 (e : Nat)]))) := HX
  have HR' : Hid (∀ W, SlB W a cap bs → Calls Tryd.prog 32 #[bv a bs.length cap N, .int .i64 at_, s.v] W (Ret W (.tuple #[.int .u64 (v : Nat), .int .i64 n, .agg #[.bool th, .int .u64 (tp : Nat), .int .u8 (tl : Nat), .int .u8 (tw : Nat)], .int .i64 (e : Nat)]))) := HR
  clear HX HR
  go_enter Tryd.func9, Tryd.ntmps9
  go_wp2_with (first | (go_at_call 18; (with_reducible refine (HK.out _ (by repeat (first | with_reducible exact hT | with_reducible refine TabW.over ?_ _ | with_reducible refine TabW.alloc ?_ _ | with_reducible refine TabW.drew ?_ | ((with_reducible refine TabW.setCell ?_ ?_ _); rotate_left; (first | (focus (simp; done)) | (focus (simp; omega)))) | ((with_reducible refine TabW.chg ?_ _ ?_); rotate_left; (first | assumption | (focus (simp; done)) | (focus (simp; omega)))) | exact hT))).mono ?_); rintro _ _ ⟨⟨e1, rfl⟩, rfl⟩) | (go_at_call 31; (with_reducible refine (HX'.out _ (by repeat (first | with_reducible exact hT | with_reducible refine TabW.over ?_ _ | with_reducible refine TabW.alloc ?_ _ | with_reducible refine TabW.drew ?_ | ((with_reducible refine TabW.setCell ?_ ?_ _); rotate_left; (first | (focus (simp; done)) | (focus (simp; omega)))) | ((with_reducible refine TabW.chg ?_ _ ?_); rotate_left; (first | assumption | (focus (simp; done)) | (focus (simp; omega)))) | exact hT)) (by repeat (first | with_reducible exact hb | with_reducible refine Sl.over ?_ _ | with_reducible refine Sl.alloc ?_ _ | with_reducible refine Sl.drew ?_ | exact hb))).mono ?_); rintro _ _ ⟨⟨e2, rfl⟩, rfl⟩) | (go_at_call 32; (with_reducible refine (HR'.out _ (by repeat (first | with_reducible exact hb | with_reducible refine Sl.over ?_ _ | with_reducible refine Sl.alloc ?_ _ | with_reducible refine Sl.drew ?_ | exact hb))).mono ?_); rintro _ _ ⟨⟨e3, rfl⟩, rfl⟩))
  go_ret
  exact ⟨(by (try unfold Ov); repeat (first | with_reducible exact ex_over | with_reducible exact over_self _ | with_reducible refine ex_undrew ?_ | with_reducible refine ex_into ?_ _ | with_reducible refine ex_alloc ?_ _ | with_reducible refine ex_drew ?_ | ((with_reducible refine ex_setCell ?_ ?_ _); rotate_left; (first | omega | (focus (simp; done)) | (focus (simp; omega)))) | ((with_reducible refine ex_chg ?_ _ ?_); rotate_left; (first | assumption | (exact Hid.out (by assumption)))) | exact ex_over)), rfl⟩

set_option maxRecDepth 100000 in
set_option maxHeartbeats 4000000 in
theorem xorOnly_any (bs : List Nat) (hbs : ∀ b ∈ bs, b < 256) (N : Int) (hN : -9223372036854775808 ≤ N ∧ N ≤ 9223372036854775807) (a : Option Addr) (cap : Nat) (at_ : Int) (hat : -9223372036854775808 ≤ at_ ∧ at_ ≤ 9223372036854775807) (s : Vl) (hs : s.wf) (w : World) (hT : TabW w) (hb : SlB w a cap bs) :
    Calls Tryd.prog 11 #[bv a bs.length cap N, .int .i64 at_, s.v] w (Ret w (.bool true)) := by
  have HK := hid (fun W hW => known03_any W hW)
  have hmax := len_max hb
  by_cases hlen : (500 : Int) < (bs.length : Int)
  · obtain ⟨hs1, hs2, hs3⟩ := hs
    go_enter Tryd.func11, Tryd.ntmps11
    go_wp2_with (go_at_call 18; (with_reducible refine (HK.out _ (by repeat (first | with_reducible exact hT | with_reducible refine TabW.over ?_ _ | with_reducible refine TabW.alloc ?_ _ | with_reducible refine TabW.drew ?_ | ((with_reducible refine TabW.setCell ?_ ?_ _); rotate_left; (first | (focus (simp; done)) | (focus (simp; omega)))) | ((with_reducible refine TabW.chg ?_ _ ?_); rotate_left; (first | assumption | (focus (simp; done)) | (focus (simp; omega)))) | exact hT))).mono ?_); rintro _ _ ⟨⟨e1, rfl⟩, rfl⟩)
    go_ret
    exact ⟨(by (try unfold Ov); repeat (first | with_reducible exact ex_over | with_reducible exact over_self _ | with_reducible refine ex_undrew ?_ | with_reducible refine ex_into ?_ _ | with_reducible refine ex_alloc ?_ _ | with_reducible refine ex_drew ?_ | ((with_reducible refine ex_setCell ?_ ?_ _); rotate_left; (first | omega | (focus (simp; done)) | (focus (simp; omega)))) | ((with_reducible refine ex_chg ?_ _ ?_); rotate_left; (first | assumption | (exact Hid.out (by assumption)))) | exact ex_over)), rfl⟩
  have hl : bs.length ≤ 1000000 := by omega
  have hG : (∃ e : Nat, e ≠ 0 ∧ (∀ W, TabW W → SlB W a cap bs → Calls Tryd.prog 31 #[bv a bs.length cap N, .int .i64 at_, s.v] W (Ret W (xgV 0 0 Vl.zero e)))) ∨
      (∃ (l : List Bool) (i n : Nat) (v : Nat) (t : Vl), l.length ≤ 800000 ∧ bs = pack l ∧ N = l.length ∧ at_ = i ∧ soundV s = true ∧ v < 18446744073709551616 ∧ i + n ≤ l.length ∧ t.prev = v ∧ (written s v).2 = t ∧ (written s v).1 = (l.drop i).take n ∧ (∀ W, TabW W → SlB W a cap bs → Calls Tryd.prog 31 #[bv a bs.length cap N, .int .i64 at_, s.v] W (Ret W (xgV v (i + n : Nat) t 0)))) := by
    by_cases hn : wrongX (soundB bs N) (soundV s) = 0
    · have hg1 : soundB bs N = true := by
        cases g : soundB bs N
        · rw [g] at hn; simp [wrongX] at hn
        · rfl
      have hg2 : soundV s = true := by
        cases g : soundV s
        · rw [g, hg1] at hn; simp [wrongX] at hn
        · rfl
      obtain ⟨l, rfl, rfl⟩ := sound_list hbs hg1
      have hll : l.length ≤ 800000 := by rw [pack_length] at hlen; unfold nb at hlen; omega
      have hx := fun W h1 h2 => xget_yes l hll a cap at_ hat s hs hg2 W h1 h2
      by_cases he : (getX l at_ s).2.2.2 = 0
      · right
        have hlt := getX_lt (l := l) (at_ := at_) hs
        obtain ⟨⟨v, n, t, e⟩, hg⟩ : ∃ p, getX l at_ s = p := ⟨_, rfl⟩
        rw [hg] at hx he hlt
        simp only at he hlt
        subst he
        obtain ⟨b1, b2, b3, b4, b5⟩ := getX_ok hg
        obtain ⟨i, rfl⟩ : ∃ i : Nat, at_ = i := ⟨at_.toNat, by omega⟩
        obtain ⟨m, rfl⟩ : ∃ m : Nat, n = (i + m : Nat) := ⟨n.toNat - i, by omega⟩
        have hp := (written_sound hg2 hs hlt).2.2.1
        rw [b4] at hp
        refine ⟨l, i, m, v, t, hll, rfl, rfl, rfl, hg2, hlt, by omega, hp, b4, ?_, hx⟩
        rw [b5, Int.toNat_natCast, Int.toNat_natCast]; congr 1; omega
      · left
        rw [getX_zero he] at hx
        exact ⟨_, he, hx⟩
    · left
      exact ⟨_, hn, fun W h1 h2 => xget_no bs hbs hl N hN a cap at_ s hs W h2 hn⟩
  rcases hG with ⟨e, he, hx⟩ | ⟨l, i, n, v, t, hll, rfl, rfl, rfl, hg2, hv, hin, hp, hw2, hw1, hx⟩
  · have HX' : Hid (∀ W, TabW W → SlB W a cap bs → Calls Tryd.prog 31 #[bv a bs.length cap N, .int .i64 at_, s.v] W (Ret W (.tuple #[.int .u64 0, .int .i64 0, .agg #[.bool false, .int .u64 0, .int .u8 0, .int .u8 0], .int .u16 (e : Nat)]))) := hid hx
    have he' : ((e : Int) != 0) = true := by simp; exact he
    clear hx
    obtain ⟨hs1, hs2, hs3⟩ := hs
    go_enter Tryd.func11, Tryd.ntmps11
    go_wp2_with (first | (go_at_call 18; (with_reducible refine (HK.out _ (by repeat (first | with_reducible exact hT | with_reducible refine TabW.over ?_ _ | with_reducible refine TabW.alloc ?_ _ | with_reducible refine TabW.drew ?_ | ((with_reducible refine TabW.setCell ?_ ?_ _); rotate_left; (first | (focus (simp; done)) | (focus (simp; omega)))) | ((with_reducible refine TabW.chg ?_ _ ?_); rotate_left; (first | assumption | (focus (simp; done)) | (focus (simp; omega)))) | exact hT))).mono ?_); rintro _ _ ⟨⟨e1, rfl⟩, rfl⟩) | (go_at_call 31; (with_reducible refine (HX'.out _ (by repeat (first | with_reducible exact hT | with_reducible refine TabW.over ?_ _ | with_reducible refine TabW.alloc ?_ _ | with_reducible refine TabW.drew ?_ | ((with_reducible refine TabW.setCell ?_ ?_ _); rotate_left; (first | (focus (simp; done)) | (focus (simp; omega)))) | ((with_reducible refine TabW.chg ?_ _ ?_); rotate_left; (first | assumption | (focus (simp; done)) | (focus (simp; omega)))) | exact hT)) (by repeat (first | with_reducible exact hb | with_reducible refine Sl.over ?_ _ | with_reducible refine Sl.alloc ?_ _ | with_reducible refine Sl.drew ?_ | exact hb))).mono ?_); rintro _ _ ⟨⟨e2, rfl⟩, rfl⟩))
    go_ret
    exact ⟨(by (try unfold Ov); repeat (first | with_reducible exact ex_over | with_reducible exact over_self _ | with_reducible refine ex_undrew ?_ | with_reducible refine ex_into ?_ _ | with_reducible refine ex_alloc ?_ _ | with_reducible refine ex_drew ?_ | ((with_reducible refine ex_setCell ?_ ?_ _); rotate_left; (first | omega | (focus (simp; done)) | (focus (simp; omega)))) | ((with_reducible refine ex_chg ?_ _ ?_); rotate_left; (first | assumption | (exact Hid.out (by assumption)))) | exact ex_over)), rfl⟩
  · have HP : Hid (∀ W, TabW W → Calls Tryd.prog 21 #[.agg #[.slice none 0 0, .int .i64 0], s.v, .int .u64 (v : Nat)] W (XpPost W ([] ++ (written s v).1) (written s v).2)) := hid (fun W hW => xput_yes [] (by simp) none 0 s hs hg2 v hv W (Sl.nil W) hW)
    have HC := hid (fun W hW => rcut_any l (by omega) i n hin a cap W hW)
    rw [List.nil_append, hw1, hw2] at HP
    obtain ⟨K, hK⟩ : ∃ K, (l.drop i).take n = K := ⟨_, rfl⟩
    rw [hK] at HP HC
    have HS := hid (fun b1 c1 b2 c2 W h1 h2 => rsame_any (pack K) (pack K) pack_lt pack_lt K.length K.length b1 c1 b2 c2 W h1 h2)
    rw [decide_eq_true rfl, decide_eq_true rfl] at HS
    clear hw1 hw2 hK
    obtain ⟨M, hM⟩ : ∃ M, i + n = M := ⟨_, rfl⟩
    rw [hM] at HC hx hin
    clear hM
    obtain ⟨th, tp, tl, tw⟩ := t
    simp only at hp
    subst hp
    have HX' : Hid (∀ W, TabW W → SlB W a cap (pack l) → Calls Tryd.prog 31 #[bv a (pack l).length cap l.length, .int .i64 (i : Nat), s.v] W (Ret W (.tuple #[.int .u64 (tp : Nat), .int .i64 (M : Nat), .agg #[.bool th, .int .u64 (tp : Nat), .int .u8 (tl : Nat), .int .u8 (tw : Nat)], .int .u16 0]))) := hid hx
    clear hx
    obtain ⟨hs1, hs2, hs3⟩ := hs
    go_enter Tryd.func11, Tryd.ntmps11
    go_wp2_with (first | (go_at_call 18; (with_reducible refine (HK.out _ (by repeat (first | with_reducible exact hT | with_reducible refine TabW.over ?_ _ | with_reducible refine TabW.alloc ?_ _ | with_reducible refine TabW.drew ?_ | ((with_reducible refine TabW.setCell ?_ ?_ _); rotate_left; (first | (focus (simp; done)) | (focus (simp; omega)))) | ((with_reducible refine TabW.chg ?_ _ ?_); rotate_left; (first | assumption | (focus (simp; done)) | (focus (simp; omega)))) | exact hT))).mono ?_); rintro _ _ ⟨⟨e1, rfl⟩, rfl⟩) | (go_at_call 31; (with_reducible refine (HX'.out _ (by repeat (first | with_reducible exact hT | with_reducible refine TabW.over ?_ _ | with_reducible refine TabW.alloc ?_ _ | with_reducible refine TabW.drew ?_ | ((with_reducible refine TabW.setCell ?_ ?_ _); rotate_left; (first | (focus (simp; done)) | (focus (simp; omega)))) | ((with_reducible refine TabW.chg ?_ _ ?_); rotate_left; (first | assumption | (focus (simp; done)) | (focus (simp; omega)))) | exact hT)) (by repeat (first | with_reducible exact hb | with_reducible refine Sl.over ?_ _ | with_reducible refine Sl.alloc ?_ _ | with_reducible refine Sl.drew ?_ | exact hb))).mono ?_); rintro _ _ ⟨⟨e2, rfl⟩, rfl⟩) | (go_at_call 21; (with_reducible refine (HP.out _ (by repeat (first | with_reducible exact hT | with_reducible refine TabW.over ?_ _ | with_reducible refine TabW.alloc ?_ _ | with_reducible refine TabW.drew ?_ | ((with_reducible refine TabW.setCell ?_ ?_ _); rotate_left; (first | (focus (simp; done)) | (focus (simp; omega)))) | ((with_reducible refine TabW.chg ?_ _ ?_); rotate_left; (first | assumption | (focus (simp; done)) | (focus (simp; omega)))) | exact hT))).mono ?_); rintro _ _ ⟨a3, c3, rfl, ⟨e3, rfl⟩, s3⟩) | (go_at_call 33; (with_reducible refine (HC.out _ (by repeat (first | with_reducible exact hb | with_reducible refine Sl.over ?_ _ | with_reducible refine Sl.alloc ?_ _ | with_reducible refine Sl.drew ?_ | exact hb))).mono ?_); rintro _ _ ⟨a4, c4, rfl, ⟨e4, rfl⟩, s4⟩) | (go_at_call 23; (with_reducible refine (HS.out _ _ _ _ _ (by repeat (first | with_reducible exact s3 | with_reducible refine Sl.over ?_ _ | with_reducible refine Sl.alloc ?_ _ | with_reducible refine Sl.drew ?_ | exact s3)) (by repeat (first | with_reducible exact s4 | with_reducible refine Sl.over ?_ _ | with_reducible refine Sl.alloc ?_ _ | with_reducible refine Sl.drew ?_ | exact s4))).mono ?_); rintro _ _ ⟨⟨e5, rfl⟩, rfl⟩))
    go_ret
    exact ⟨(by (try unfold Ov); repeat (first | with_reducible exact ex_over | with_reducible exact over_self _ | with_reducible refine ex_undrew ?_ | with_reducible refine ex_into ?_ _ | with_reducible refine ex_alloc ?_ _ | with_reducible refine ex_drew ?_ | ((with_reducible refine ex_setCell ?_ ?_ _); rotate_left; (first | omega | (focus (simp; done)) | (focus (simp; omega)))) | ((with_reducible refine ex_chg ?_ _ ?_); rotate_left; (first | assumption | (exact Hid.out (by assumption)))) | exact ex_over)), rfl⟩
end Go.Proofs.YthljlajdkdgieaaDoor
