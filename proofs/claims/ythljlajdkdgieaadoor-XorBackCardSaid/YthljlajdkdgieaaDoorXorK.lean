/- Walks: draymanlaw03.known; XorSounds, XorPuts, XorSame. -/
import Derived.Test.YthljlajdkdgieaaDoorRxP
namespace Go.Proofs.YthljlajdkdgieaaDoor
set_option linter.unusedVariables false
set_option linter.unusedSimpArgs false
open Go.RowKit

/-- The same with the values laid out. -/
def XpN (w : World) (L : List Bool) (N : Int) (tv : Value) (en : Ending) (w' : World) : Prop :=
  ∃ a c, en = .returned (.tuple #[bv a (pack L).length c N, tv, .int .u16 0]) ∧ (∃ e, w' = over w e) ∧ SlB w' a c (pack L)
theorem XpPost.n {w w' : World} {L : List Bool} {t : Vl} {en : Ending} (h : XpPost w L t en w') {N : Int} (hN : (L.length : Int) = N) {tv : Value} (ht : t.v = tv) : XpN w L N tv en w' := by
  subst hN ht; exact h

def kL1 : List Bool := [] ++ (written Vl.zero 1).1
def kL2 : List Bool := kL1 ++ (written ⟨true, 1, 0, 0⟩ 1).1
def kL3 : List Bool := kL2 ++ (written ⟨true, 1, 0, 0⟩ 3).1
def kL4 : List Bool := kL3 ++ (written ⟨true, 3, 31, 32⟩ 1).1
theorem kw1 : (written Vl.zero 1).2 = ⟨true, 1, 0, 0⟩ := by decide +kernel
theorem kw2 : (written ⟨true, 1, 0, 0⟩ 1).2 = ⟨true, 1, 0, 0⟩ := by decide +kernel
theorem kw3 : (written ⟨true, 1, 0, 0⟩ 3).2 = ⟨true, 3, 31, 32⟩ := by decide +kernel
theorem kw4 : (written ⟨true, 3, 31, 32⟩ 1).2 = ⟨true, 1, 31, 32⟩ := by decide +kernel
theorem kl1 : kL1.length = 64 := by decide +kernel
theorem kl2 : kL2.length = 65 := by decide +kernel
theorem kl3 : kL3.length = 110 := by decide +kernel
theorem kl4 : kL4.length = 144 := by decide +kernel
theorem zero_wf : Vl.zero.wf := by simp [Vl.wf, Vl.zero]

abbrev zv : Value := .agg #[.bool false, .int .u64 0, .int .u8 0, .int .u8 0]
set_option maxRecDepth 100000 in
set_option maxHeartbeats 2000000 in
theorem known03_any (w : World) (hT : TabW w) : Calls Tryd.prog 18 #[] w (Ret w (.bool true)) := by
  have HK1 : Hid (∀ W, TabW W → Calls Tryd.prog 21 #[.agg #[.slice none 0 0, .int .i64 0], .agg #[.bool false, .int .u64 0, .int .u8 0, .int .u8 0], .int .u64 1] W (XpN W kL1 64 (.agg #[.bool true, .int .u64 1, .int .u8 0, .int .u8 0]))) :=
    hid (fun W hW => (xput_yes [] (by simp) none 0 Vl.zero zero_wf (by decide) 1 (by decide) W (Sl.nil W) hW).mono fun _ _ h => by rw [kw1] at h; exact h.n (N := 64) (congrArg (Nat.cast (R := Int)) kl1) rfl)
  have HK2 : Hid (∀ W a c, TabW W → SlB W a c (pack kL1) → Calls Tryd.prog 21 #[.agg #[.slice a (pack kL1).length c, .int .i64 64], .agg #[.bool true, .int .u64 1, .int .u8 0, .int .u8 0], .int .u64 1] W (XpN W kL2 65 (.agg #[.bool true, .int .u64 1, .int .u8 0, .int .u8 0]))) :=
    hid (fun W a c hW hs => by
      have h0 := (xput_yes kL1 (by rw [kl1]; decide) a c ⟨true, 1, 0, 0⟩ (by simp [Vl.wf]) (by decide) 1 (by decide) W hs hW).mono fun _ _ h => by rw [kw2] at h; exact h.n (N := 65) (by rw [show (kL1 ++ (written ⟨true, 1, 0, 0⟩ 1).1).length = 65 from kl2]; rfl) rfl
      rw [kl1] at h0; exact h0)
  have HK3 : Hid (∀ W a c, TabW W → SlB W a c (pack kL2) → Calls Tryd.prog 21 #[.agg #[.slice a (pack kL2).length c, .int .i64 65], .agg #[.bool true, .int .u64 1, .int .u8 0, .int .u8 0], .int .u64 3] W (XpN W kL3 110 (.agg #[.bool true, .int .u64 3, .int .u8 31, .int .u8 32]))) :=
    hid (fun W a c hW hs => by
      have h0 := (xput_yes kL2 (by rw [kl2]; decide) a c ⟨true, 1, 0, 0⟩ (by simp [Vl.wf]) (by decide) 3 (by decide) W hs hW).mono fun _ _ h => by rw [kw3] at h; exact h.n (N := 110) (by rw [show (kL2 ++ (written ⟨true, 1, 0, 0⟩ 3).1).length = 110 from kl3]; rfl) rfl
      rw [kl2] at h0; exact h0)
  have HK4 : Hid (∀ W a c, TabW W → SlB W a c (pack kL3) → Calls Tryd.prog 21 #[.agg #[.slice a (pack kL3).length c, .int .i64 110], .agg #[.bool true, .int .u64 3, .int .u8 31, .int .u8 32], .int .u64 1] W (XpN W kL4 144 (.agg #[.bool true, .int .u64 1, .int .u8 31, .int .u8 32]))) :=
    hid (fun W a c hW hs => by
      have h0 := (xput_yes kL3 (by rw [kl3]; decide) a c ⟨true, 3, 31, 32⟩ (by simp [Vl.wf]) (by decide) 1 (by decide) W hs hW).mono fun _ _ h => by rw [kw4] at h; exact h.n (N := 144) (by rw [show (kL3 ++ (written ⟨true, 3, 31, 32⟩ 1).1).length = 144 from kl4]; rfl) rfl
      rw [kl3] at h0; exact h0)
  generalize kL1 = L1 at *
  generalize kL2 = L2 at *
  generalize kL3 = L3 at *
  generalize kL4 = L4 at *
  go_enter Tryd.func18, Tryd.ntmps18
  go_wp2_with (first | (go_at_call 21; (with_reducible refine (HK1.out _ (by repeat (first | with_reducible exact hT | with_reducible refine TabW.over ?_ _ | with_reducible refine TabW.alloc ?_ _ | with_reducible refine TabW.drew ?_ | ((with_reducible refine TabW.setCell ?_ ?_ _); rotate_left; (first | (focus (simp; done)) | (focus (simp; omega)))) | ((with_reducible refine TabW.chg ?_ _ ?_); rotate_left; (first | assumption | (focus (simp; done)) | (focus (simp; omega)))) | exact hT))).mono ?_); rintro _ _ ⟨a1, c1, rfl, ⟨e1, rfl⟩, s1⟩) | (go_at_call 21; (with_reducible refine (HK2.out _ _ _ (by repeat (first | with_reducible exact hT | with_reducible refine TabW.over ?_ _ | with_reducible refine TabW.alloc ?_ _ | with_reducible refine TabW.drew ?_ | ((with_reducible refine TabW.setCell ?_ ?_ _); rotate_left; (first | (focus (simp; done)) | (focus (simp; omega)))) | ((with_reducible refine TabW.chg ?_ _ ?_); rotate_left; (first | assumption | (focus (simp; done)) | (focus (simp; omega)))) | exact hT)) (by repeat (first | with_reducible exact s1 | with_reducible refine Sl.over ?_ _ | with_reducible refine Sl.alloc ?_ _ | with_reducible refine Sl.drew ?_ | exact s1))).mono ?_); rintro _ _ ⟨a2, c2, rfl, ⟨e2, rfl⟩, s2⟩) | (go_at_call 21; (with_reducible refine (HK3.out _ _ _ (by repeat (first | with_reducible exact hT | with_reducible refine TabW.over ?_ _ | with_reducible refine TabW.alloc ?_ _ | with_reducible refine TabW.drew ?_ | ((with_reducible refine TabW.setCell ?_ ?_ _); rotate_left; (first | (focus (simp; done)) | (focus (simp; omega)))) | ((with_reducible refine TabW.chg ?_ _ ?_); rotate_left; (first | assumption | (focus (simp; done)) | (focus (simp; omega)))) | exact hT)) (by repeat (first | with_reducible exact s2 | with_reducible refine Sl.over ?_ _ | with_reducible refine Sl.alloc ?_ _ | with_reducible refine Sl.drew ?_ | exact s2))).mono ?_); rintro _ _ ⟨a3, c3, rfl, ⟨e3, rfl⟩, s3⟩) | (go_at_call 21; (with_reducible refine (HK4.out _ _ _ (by repeat (first | with_reducible exact hT | with_reducible refine TabW.over ?_ _ | with_reducible refine TabW.alloc ?_ _ | with_reducible refine TabW.drew ?_ | ((with_reducible refine TabW.setCell ?_ ?_ _); rotate_left; (first | (focus (simp; done)) | (focus (simp; omega)))) | ((with_reducible refine TabW.chg ?_ _ ?_); rotate_left; (first | assumption | (focus (simp; done)) | (focus (simp; omega)))) | exact hT)) (by repeat (first | with_reducible exact s3 | with_reducible refine Sl.over ?_ _ | with_reducible refine Sl.alloc ?_ _ | with_reducible refine Sl.drew ?_ | exact s3))).mono ?_); rintro _ _ ⟨a4, c4, rfl, ⟨e4, rfl⟩, s4⟩))
  go_ret
  exact ⟨(by (try unfold Ov); repeat (first | with_reducible exact ex_over | with_reducible exact over_self _ | with_reducible refine ex_undrew ?_ | with_reducible refine ex_into ?_ _ | with_reducible refine ex_alloc ?_ _ | with_reducible refine ex_drew ?_ | ((with_reducible refine ex_setCell ?_ ?_ _); rotate_left; (first | omega | (focus (simp; done)) | (focus (simp; omega)))) | ((with_reducible refine ex_chg ?_ _ ?_); rotate_left; (first | assumption | (exact Hid.out (by assumption)))) | exact ex_over)), rfl⟩

set_option maxRecDepth 100000 in
set_option maxHeartbeats 1000000 in
theorem xorSounds_any (s : Vl) (hs : s.wf) (w : World) (hT : TabW w) : Calls Tryd.prog 3 #[s.v] w (Ret w (.bool true)) := by
  have HK := hid (fun W hW => known03_any W hW)
  have H1 := hid (fun W => xsound_any s hs W)
  have H2 := hid (fun W => rxsound_any s hs W)
  obtain ⟨hs1, hs2, hs3⟩ := hs
  cases g : soundV s
  all_goals
    rw [g] at H1 H2
    go_enter Tryd.func3, Tryd.ntmps3
    go_wp2
    refine wp_region_over (by kernel_rfl) (by kernel_rfl) ?_
    repeat (go_big_quiet_step ((first | (go_at_call 18; exact quiet_over (HK.out _ (by repeat (first | with_reducible exact hT | with_reducible refine TabW.over ?_ _ | with_reducible refine TabW.alloc ?_ _ | with_reducible refine TabW.drew ?_ | ((with_reducible refine TabW.setCell ?_ ?_ _); rotate_left; (first | (focus (simp; done)) | (focus (simp; omega)))) | ((with_reducible refine TabW.chg ?_ _ ?_); rotate_left; (first | assumption | (focus (simp; done)) | (focus (simp; omega)))) | exact hT)))) | (go_at_call 19; exact quiet_over (H1.out _)) | (go_at_call 20; exact quiet_over (H2.out _)))))
    refine wpQuiet_nil ?_
    intro _ hw'
    obtain ⟨nq, rfl⟩ := hw'
    go_wp2
    go_ret
    exact ⟨(by (try unfold Ov); repeat (first | with_reducible exact ex_over | with_reducible exact over_self _ | with_reducible refine ex_undrew ?_ | with_reducible refine ex_into ?_ _ | with_reducible refine ex_alloc ?_ _ | with_reducible refine ex_drew ?_ | ((with_reducible refine ex_setCell ?_ ?_ _); rotate_left; (first | omega | (focus (simp; done)) | (focus (simp; omega)))) | ((with_reducible refine ex_chg ?_ _ ?_); rotate_left; (first | assumption | (exact Hid.out (by assumption)))) | exact ex_over)), rfl⟩

set_option maxRecDepth 100000 in
set_option maxHeartbeats 4000000 in
theorem xorPuts_any (bs : List Nat) (hbs : ∀ b ∈ bs, b < 256) (N : Int) (hN : -9223372036854775808 ≤ N ∧ N ≤ 9223372036854775807) (a : Option Addr) (cap : Nat) (s : Vl) (hs : s.wf) (v : Nat) (hv : v < 18446744073709551616) (w : World) (hT : TabW w) (hb : SlB w a cap bs) :
    Calls Tryd.prog 4 #[bv a bs.length cap N, s.v, .int .u64 (v : Nat)] w (Ret w (.bool true)) := by
  have HK := hid (fun W hW => known03_any W hW)
  have hmax := len_max hb
  by_cases hlen : (500 : Int) < (bs.length : Int)
  · obtain ⟨hs1, hs2, hs3⟩ := hs
    go_enter Tryd.func4, Tryd.ntmps4
    go_wp2_with (go_at_call 18; (with_reducible refine (HK.out _ (by repeat (first | with_reducible exact hT | with_reducible refine TabW.over ?_ _ | with_reducible refine TabW.alloc ?_ _ | with_reducible refine TabW.drew ?_ | ((with_reducible refine TabW.setCell ?_ ?_ _); rotate_left; (first | (focus (simp; done)) | (focus (simp; omega)))) | ((with_reducible refine TabW.chg ?_ _ ?_); rotate_left; (first | assumption | (focus (simp; done)) | (focus (simp; omega)))) | exact hT))).mono ?_); rintro _ _ ⟨⟨e1, rfl⟩, rfl⟩)
    go_ret
    exact ⟨(by (try unfold Ov); repeat (first | with_reducible exact ex_over | with_reducible exact over_self _ | with_reducible refine ex_undrew ?_ | with_reducible refine ex_into ?_ _ | with_reducible refine ex_alloc ?_ _ | with_reducible refine ex_drew ?_ | ((with_reducible refine ex_setCell ?_ ?_ _); rotate_left; (first | omega | (focus (simp; done)) | (focus (simp; omega)))) | ((with_reducible refine ex_chg ?_ _ ?_); rotate_left; (first | assumption | (exact Hid.out (by assumption)))) | exact ex_over)), rfl⟩
  have hl : bs.length ≤ 1000000 := by omega
  by_cases hn : wrongX (soundB bs N) (soundV s) = 0
  · have hg1 : soundB bs N = true := by
      cases g : soundB bs N
      · rw [g] at hn; simp [wrongX] at hn
      · rfl
    have hg2 : soundV s = true := by
      cases g : soundV s
      · rw [g, hg1] at hn; simp [wrongX] at hn
      · rfl
    obtain ⟨l, rfl, rfl⟩ := sound_list hbs hg1
    have hll : l.length ≤ 800000 := by rw [pack_length] at hlen; unfold nb at hlen; omega
    have HP := hid (fun W h1 h2 => xput_yes l hll a cap s hs hg2 v hv W h1 h2)
    have HR := hid (fun W h1 => rxput_yes l hll a cap s hs hg2 v hv W h1)
    generalize l ++ (written s v).1 = L at *
    generalize (written s v).2 = t at *
    have HS := hid (fun b1 c1 b2 c2 W h1 h2 => rsame_any (pack L) (pack L) pack_lt pack_lt L.length L.length b1 c1 b2 c2 W h1 h2)
    rw [decide_eq_true rfl, decide_eq_true rfl] at HS
    clear hn hg1 hg2
    obtain ⟨hs1, hs2, hs3⟩ := hs
    go_enter Tryd.func4, Tryd.ntmps4
    go_wp2_with (first | (go_at_call 18; (with_reducible refine (HK.out _ (by repeat (first | with_reducible exact hT | with_reducible refine TabW.over ?_ _ | with_reducible refine TabW.alloc ?_ _ | with_reducible refine TabW.drew ?_ | ((with_reducible refine TabW.setCell ?_ ?_ _); rotate_left; (first | (focus (simp; done)) | (focus (simp; omega)))) | ((with_reducible refine TabW.chg ?_ _ ?_); rotate_left; (first | assumption | (focus (simp; done)) | (focus (simp; omega)))) | exact hT))).mono ?_); rintro _ _ ⟨⟨e1, rfl⟩, rfl⟩) | (go_at_call 21; (with_reducible refine (HP.out _ (by repeat (first | with_reducible exact hb | with_reducible refine Sl.over ?_ _ | with_reducible refine Sl.alloc ?_ _ | with_reducible refine Sl.drew ?_ | exact hb)) (by repeat (first | with_reducible exact hT | with_reducible refine TabW.over ?_ _ | with_reducible refine TabW.alloc ?_ _ | with_reducible refine TabW.drew ?_ | ((with_reducible refine TabW.setCell ?_ ?_ _); rotate_left; (first | (focus (simp; done)) | (focus (simp; omega)))) | ((with_reducible refine TabW.chg ?_ _ ?_); rotate_left; (first | assumption | (focus (simp; done)) | (focus (simp; omega)))) | exact hT))).mono ?_); rintro _ _ ⟨a2, c2, rfl, ⟨e2, rfl⟩, s2⟩) | (go_at_call 22; (with_reducible refine (HR.out _ (by repeat (first | with_reducible exact hb | with_reducible refine Sl.over ?_ _ | with_reducible refine Sl.alloc ?_ _ | with_reducible refine Sl.drew ?_ | exact hb))).mono ?_); rintro _ _ ⟨a3, c3, rfl, ⟨e3, rfl⟩, s3⟩) | (go_at_call 23; (with_reducible refine (HS.out _ _ _ _ _ (by repeat (first | with_reducible exact s2 | with_reducible refine Sl.over ?_ _ | with_reducible refine Sl.alloc ?_ _ | with_reducible refine Sl.drew ?_ | exact s2)) (by repeat (first | with_reducible exact s3 | with_reducible refine Sl.over ?_ _ | with_reducible refine Sl.alloc ?_ _ | with_reducible refine Sl.drew ?_ | exact s3))).mono ?_); rintro _ _ ⟨⟨e4, rfl⟩, rfl⟩))
    go_ret
    exact ⟨(by (try unfold Ov); repeat (first | with_reducible exact ex_over | with_reducible exact over_self _ | with_reducible refine ex_undrew ?_ | with_reducible refine ex_into ?_ _ | with_reducible refine ex_alloc ?_ _ | with_reducible refine ex_drew ?_ | ((with_reducible refine ex_setCell ?_ ?_ _); rotate_left; (first | omega | (focus (simp; done)) | (focus (simp; omega)))) | ((with_reducible refine ex_chg ?_ _ ?_); rotate_left; (first | assumption | (exact Hid.out (by assumption)))) | exact ex_over)), rfl⟩
  · have HP := hid (fun W h1 => xput_no bs hbs hl N hN a cap s hs v W h1 hn)
    have HR := hid (fun W h1 => rxput_no bs hbs hl N hN a cap s hs v W h1 hn)
    have HS : Hid (∀ W, Calls Tryd.prog 23 #[.agg #[.slice none 0 0, .int .i64 0], .agg #[.slice none 0 0, .int .i64 0]] W (Ret W (.bool true))) := hid (fun W => rsame_any [] [] (by simp) (by simp) 0 0 none 0 none 0 W (Sl.nil W) (Sl.nil W))
    have hw : wrongX (soundB bs N) (soundV s) = 11 ∨ wrongX (soundB bs N) (soundV s) = 30 := by
      unfold wrongX at hn ⊢; split at hn
      · split at hn
        · exact absurd rfl hn
        · rename_i h1 h2; rw [if_pos h1, if_neg h2]; exact .inr rfl
      · rename_i h1; rw [if_neg h1]; exact .inl rfl
    obtain ⟨hs1, hs2, hs3⟩ := hs
    rcases hw with hw | hw
    all_goals
      rw [hw] at HP HR
      clear hw hn
      have HP' : Hid (∀ W, SlB W a cap bs → Calls Tryd.prog 21 #[bv a bs.length cap N, s.v, .int .u64 (v : Nat)] W (Ret W (.tuple #[.agg #[.slice none 0 0, .int .i64 0], .agg #[.bool false, .int .u64 0, .int .u8 0, .int .u8 0], .int .u16 _]))) := HP
      have HR' : Hid (∀ W, SlB W a cap bs → Calls Tryd.prog 22 #[bv a bs.length cap N, s.v, .int .u64 (v : Nat)] W (Ret W (.tuple #[.agg #[.slice none 0 0, .int .i64 0], .agg #[.bool false, .int .u64 0, .int .u8 0, .int .u8 0], .int .i64 _]))) := HR
      clear HP HR
      go_enter Tryd.func4, Tryd.ntmps4
      go_wp2_with (first | (go_at_call 18; (with_reducible refine (HK.out _ (by repeat (first | with_reducible exact hT | with_reducible refine TabW.over ?_ _ | with_reducible refine TabW.alloc ?_ _ | with_reducible refine TabW.drew ?_ | ((with_reducible refine TabW.setCell ?_ ?_ _); rotate_left; (first | (focus (simp; done)) | (focus (simp; omega)))) | ((with_reducible refine TabW.chg ?_ _ ?_); rotate_left; (first | assumption | (focus (simp; done)) | (focus (simp; omega)))) | exact hT))).mono ?_); rintro _ _ ⟨⟨e1, rfl⟩, rfl⟩) | (go_at_call 21; (with_reducible refine (HP'.out _ (by repeat (first | with_reducible exact hb | with_reducible refine Sl.over ?_ _ | with_reducible refine Sl.alloc ?_ _ | with_reducible refine Sl.drew ?_ | exact hb))).mono ?_); rintro _ _ ⟨⟨e2, rfl⟩, rfl⟩) | (go_at_call 22; (with_reducible refine (HR'.out _ (by repeat (first | with_reducible exact hb | with_reducible refine Sl.over ?_ _ | with_reducible refine Sl.alloc ?_ _ | with_reducible refine Sl.drew ?_ | exact hb))).mono ?_); rintro _ _ ⟨⟨e3, rfl⟩, rfl⟩) | (go_at_call 23; (with_reducible refine (HS.out _).mono ?_); rintro _ _ ⟨⟨e4, rfl⟩, rfl⟩))
      go_ret
      exact ⟨(by (try unfold Ov); repeat (first | with_reducible exact ex_over | with_reducible exact over_self _ | with_reducible refine ex_undrew ?_ | with_reducible refine ex_into ?_ _ | with_reducible refine ex_alloc ?_ _ | with_reducible refine ex_drew ?_ | ((with_reducible refine ex_setCell ?_ ?_ _); rotate_left; (first | omega | (focus (simp; done)) | (focus (simp; omega)))) | ((with_reducible refine ex_chg ?_ _ ?_); rotate_left; (first | assumption | (exact Hid.out (by assumption)))) | exact ex_over)), rfl⟩

set_option maxRecDepth 100000 in
set_option maxHeartbeats 4000000 in
theorem xorSame_any (s : Vl) (hs : s.wf) (v : Nat) (hv : v < 18446744073709551616) (w : World) (hT : TabW w) :
    Calls Tryd.prog 5 #[s.v, .int .u64 (v : Nat)] w (Ret w (.bool true)) := by
  have HK := hid (fun W hW => known03_any W hW)
  have H1 := hid (fun W => xsound_any s hs W)
  cases g : soundV s
  · rw [g] at H1
    obtain ⟨hs1, hs2, hs3⟩ := hs
    go_enter Tryd.func5, Tryd.ntmps5
    go_wp2_with (first | (go_at_call 18; (with_reducible refine (HK.out _ (by repeat (first | with_reducible exact hT | with_reducible refine TabW.over ?_ _ | with_reducible refine TabW.alloc ?_ _ | with_reducible refine TabW.drew ?_ | ((with_reducible refine TabW.setCell ?_ ?_ _); rotate_left; (first | (focus (simp; done)) | (focus (simp; omega)))) | ((with_reducible refine TabW.chg ?_ _ ?_); rotate_left; (first | assumption | (focus (simp; done)) | (focus (simp; omega)))) | exact hT))).mono ?_); rintro _ _ ⟨⟨e1, rfl⟩, rfl⟩) | (go_at_call 19; (with_reducible refine (H1.out _).mono ?_); rintro _ _ ⟨⟨e2, rfl⟩, rfl⟩))
    go_ret
    exact ⟨(by (try unfold Ov); repeat (first | with_reducible exact ex_over | with_reducible exact over_self _ | with_reducible refine ex_undrew ?_ | with_reducible refine ex_into ?_ _ | with_reducible refine ex_alloc ?_ _ | with_reducible refine ex_drew ?_ | ((with_reducible refine ex_setCell ?_ ?_ _); rotate_left; (first | omega | (focus (simp; done)) | (focus (simp; omega)))) | ((with_reducible refine ex_chg ?_ _ ?_); rotate_left; (first | assumption | (exact Hid.out (by assumption)))) | exact ex_over)), rfl⟩
  · rw [g] at H1
    have hws := written_sound g hs hv
    have hwl := (written_len g hs hv).1
    have hwm := written_same (v := v) g
    have HP : Hid (∀ W, TabW W → Calls Tryd.prog 21 #[.agg #[.slice none 0 0, .int .i64 0], s.v, .int .u64 (v : Nat)] W (XpPost W ([] ++ (written s v).1) (written s v).2)) := hid (fun W hW => xput_yes [] (by simp) none 0 s hs g v hv W (Sl.nil W) hW)
    rw [List.nil_append] at HP
    have HQ := hid (fun b1 c1 W h1 h2 => xput_yes (written s v).1 (by omega) b1 c1 (written s v).2 hws.2.2.2 hws.1 v hv W h1 h2)
    rw [hwm] at HQ
    generalize (written s v).1 = L at *
    generalize (written s v).2 = t at *
    obtain ⟨L2, hL2⟩ : ∃ L2, L ++ [false] = L2 := ⟨_, rfl⟩
    rw [show L ++ ([false], t).1 = L2 from hL2] at HQ
    have hl2 : (L2.length : Int) = (L.length : Int) + 1 := by rw [← hL2]; simp
    have hl77 : (L.length : Int) ≤ 77 := by omega
    clear hws hwm hwl hL2
    have HL2 := hid hl2
    clear hl2
    have ht := t.has
    obtain ⟨hs1, hs2, hs3⟩ := hs
    go_enter Tryd.func5, Tryd.ntmps5
    go_wp2_with (first | (go_at_call 18; (with_reducible refine (HK.out _ (by repeat (first | with_reducible exact hT | with_reducible refine TabW.over ?_ _ | with_reducible refine TabW.alloc ?_ _ | with_reducible refine TabW.drew ?_ | ((with_reducible refine TabW.setCell ?_ ?_ _); rotate_left; (first | (focus (simp; done)) | (focus (simp; omega)))) | ((with_reducible refine TabW.chg ?_ _ ?_); rotate_left; (first | assumption | (focus (simp; done)) | (focus (simp; omega)))) | exact hT))).mono ?_); rintro _ _ ⟨⟨e1, rfl⟩, rfl⟩) | (go_at_call 19; (with_reducible refine (H1.out _).mono ?_); rintro _ _ ⟨⟨e2, rfl⟩, rfl⟩) | (go_at_call 21; (with_reducible refine (HP.out _ (by repeat (first | with_reducible exact hT | with_reducible refine TabW.over ?_ _ | with_reducible refine TabW.alloc ?_ _ | with_reducible refine TabW.drew ?_ | ((with_reducible refine TabW.setCell ?_ ?_ _); rotate_left; (first | (focus (simp; done)) | (focus (simp; omega)))) | ((with_reducible refine TabW.chg ?_ _ ?_); rotate_left; (first | assumption | (focus (simp; done)) | (focus (simp; omega)))) | exact hT))).mono ?_); rintro _ _ ⟨a2, c2, rfl, ⟨e2, rfl⟩, s2⟩) | (go_at_call 21; (with_reducible refine (HQ.out _ _ _ (by repeat (first | with_reducible exact s2 | with_reducible refine Sl.over ?_ _ | with_reducible refine Sl.alloc ?_ _ | with_reducible refine Sl.drew ?_ | exact s2)) (by repeat (first | with_reducible exact hT | with_reducible refine TabW.over ?_ _ | with_reducible refine TabW.alloc ?_ _ | with_reducible refine TabW.drew ?_ | ((with_reducible refine TabW.setCell ?_ ?_ _); rotate_left; (first | (focus (simp; done)) | (focus (simp; omega)))) | ((with_reducible refine TabW.chg ?_ _ ?_); rotate_left; (first | assumption | (focus (simp; done)) | (focus (simp; omega)))) | exact hT))).mono ?_); rintro _ _ ⟨a3, c3, rfl, ⟨e3, rfl⟩, s3⟩))
    go_ret
    exact ⟨(by (try unfold Ov); repeat (first | with_reducible exact ex_over | with_reducible exact over_self _ | with_reducible refine ex_undrew ?_ | with_reducible refine ex_into ?_ _ | with_reducible refine ex_alloc ?_ _ | with_reducible refine ex_drew ?_ | ((with_reducible refine ex_setCell ?_ ?_ _); rotate_left; (first | omega | (focus (simp; done)) | (focus (simp; omega)))) | ((with_reducible refine ex_chg ?_ _ ?_); rotate_left; (first | assumption | (exact Hid.out (by assumption)))) | exact ex_over)), rfl⟩
end Go.Proofs.YthljlajdkdgieaaDoor
