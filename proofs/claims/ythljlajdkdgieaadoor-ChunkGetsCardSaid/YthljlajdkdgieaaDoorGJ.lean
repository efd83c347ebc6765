/- Texts merged: XorJ, XorK, XorL. -/
import Derived.Test.YthljlajdkdgieaaDoorGH
import Derived.Test.YthljlajdkdgieaaDoorXorI4
import Derived.Test.YthljlajdkdgieaaDoorGK
import Derived.Test.YthljlajdkdgieaaDoorRxP
import Derived.Test.YthljlajdkdgieaaDoorGC
namespace Go.Proofs.YthljlajdkdgieaaDoor
set_option linter.unusedVariables false
set_option linter.unusedSimpArgs false
open Go.RowKit

theorem tk_i {l : List Bool} (hl : l.length ≤ 900000) (a : Option Addr) (cap p : Nat) {at_ : Int} (hat : -9223372036854775808 ≤ at_ ∧ at_ ≤ 9223372036854775807) {W : Nat} (hW : W ≤ 64) {v e : Nat} (h : getN l at_ W = (v, e)) (Wi n : Int) (hi : Wi = W) (hn : n = at_ + W) : TK l a cap p at_ Wi v n e := by
  subst hi hn; exact tk_of hl a cap p hat hW h

/-- xor.Get, on sound bits. -/
theorem xget_yes (l : List Bool) (hl : l.length ≤ 800000) (a : Option Addr) (cap : Nat) (at_ : Int) (hat : -9223372036854775808 ≤ at_ ∧ at_ ≤ 9223372036854775807) (s : Vl) (hs : s.wf) (hsd : soundV s = true) (w : World) (hT : TabW w) (hb : SlB w a cap (pack l)) :
    Calls Tryd.prog 31 #[bv a (pack l).length cap l.length, .int .i64 at_, s.v] w (Ret w (xgV (getX l at_ s).1 (getX l at_ s).2.1 (getX l at_ s).2.2.1 (getX l at_ s).2.2.2)) := by
  have hl9 : l.length ≤ 900000 := by omega
  cases hh : s.has
  · obtain ⟨⟨v, e⟩, hg⟩ : ∃ p, getN l at_ 64 = p := ⟨_, rfl⟩
    rw [getX_new hh, hg]
    have h := xget_new l hl a cap at_ hat s hs hsd hh w hb _ v e hg rfl
    by_cases he : e = 0
    · subst he
      simp only [if_true] at h ⊢
      exact h
    · obtain ⟨rfl, rfl⟩ := getN_e hg he
      simp only [show ¬ (10 : Nat) = 0 by decide, if_false] at h ⊢
      exact h
  obtain ⟨hl1, hl2, _⟩ := soundV_has hsd hh
  obtain ⟨⟨b1, q1⟩, g1⟩ : ∃ p, getN l at_ 1 = p := ⟨_, rfl⟩
  by_cases hq1 : q1 = 0
  rotate_left
  · have g1' := g1
    obtain ⟨rfl, rfl⟩ := getN_e g1 hq1
    rw [getX_A hh (by rw [g1]; decide)]
    exact xget_e l hl a cap at_ hat s hs hsd hh w hb 0 10 g1 s.lead s.width (by omega) false (at_ + 1) 10 (by decide) (fun p W hsl hr => df_1 W p a cap l hsl at_ hr s hs hl1 hl2 (at_ + 1) 10 (tk_i hl9 a cap p hat (by decide) g1 1 (at_ + 1) rfl rfl))
  subst hq1
  obtain ⟨ha0, hp1, _⟩ := getN_place g1
  rcases getN_one g1 with rfl | rfl
  · rw [getX_B hh g1]
    exact xget_same l hl a cap at_ hat s hs hsd hh w hb 0 g1 (at_ + 1) (fun p W hsl hr => df_1 W p a cap l hsl at_ hr s hs hl1 hl2 (at_ + 1) 0 (tk_i hl9 a cap p hat (by decide) g1 1 (at_ + 1) rfl rfl))
  have k1 := fun p => tk_i hl9 a cap p hat (by decide : 1 ≤ 64) g1 1 (at_ + 1) rfl rfl
  obtain ⟨⟨b2, q2⟩, g2⟩ : ∃ p, getN l (at_ + 1) 1 = p := ⟨_, rfl⟩
  have k2 := fun p => tk_i hl9 a cap p (by omega) (by decide : 1 ≤ 64) g2 1 (at_ + 2) rfl (by omega)
  by_cases hq2 : q2 = 0
  rotate_left
  · obtain ⟨rfl, rfl⟩ := getN_e g2 hq2
    rw [getX_C1 hh g1 (by rw [g2]; decide)]
    exact xget_e l hl a cap at_ hat s hs hsd hh w hb 1 0 g1 s.lead s.width (by omega) false (at_ + 2) 10 (by decide) (fun p W hsl hr => df_2e W p a cap l hsl at_ hr s hs hl1 hl2 (at_ + 1) (at_ + 2) 10 (by decide) (k1 p) (k2 p))
  subst hq2
  obtain ⟨_, hp2, _⟩ := getN_place g2
  rcases getN_one g2 with rfl | rfl
  · obtain ⟨⟨d0, q3⟩, g3⟩ : ∃ p, getN l (at_ + 2) s.width = p := ⟨_, rfl⟩
    have k3 := fun p => tk_i hl9 a cap p (by omega) (by omega : s.width ≤ 64) g3 s.width (at_ + 2 + s.width) rfl rfl
    have kd := fun p W hsl hr => df_2 W p a cap l hsl at_ hr s hs hl1 hl2 (at_ + 1) (at_ + 2) (at_ + 2 + s.width) d0 q3 (k1 p) (k2 p) (k3 p)
    by_cases hq3 : q3 = 0
    rotate_left
    · obtain ⟨rfl, rfl⟩ := getN_e g3 hq3
      rw [getX_C2a hh g1 g2 (by rw [g3]; decide)]
      have e0 : 0 <<< (64 - s.lead - s.width) % 18446744073709551616 = 0 := by simp
      rw [e0] at kd
      exact xget_e l hl a cap at_ hat s hs hsd hh w hb 1 0 g1 s.lead s.width (by omega) false _ 10 (by decide) kd
    · subst hq3
      rw [getX_C2b hsd hh g1 g2 g3]
      have hd := shl_lt64 d0 (64 - s.lead - s.width)
      generalize d0 <<< (64 - s.lead - s.width) % 18446744073709551616 = d at *
      by_cases h0 : d = 0
      · subst h0
        rw [if_pos rfl]
        exact xget_in0 l hl a cap at_ hat s hs hsd hh w hb 0 g1 _ kd
      · rw [if_neg h0]
        exact xget_in l hl a cap at_ hat s hs hsd hh w hb 0 g1 _ d hd h0 kd
  obtain ⟨⟨L, q3⟩, g3⟩ : ∃ p, getN l (at_ + 2) 5 = p := ⟨_, rfl⟩
  have k3 := fun p => tk_i hl9 a cap p (by omega) (by decide : 5 ≤ 64) g3 5 (at_ + 7) rfl (by omega)
  by_cases hq3 : q3 = 0
  rotate_left
  · obtain ⟨rfl, rfl⟩ := getN_e g3 hq3
    rw [getX_C3a hh g1 g2 (by rw [g3]; decide)]
    exact xget_e l hl a cap at_ hat s hs hsd hh w hb 1 0 g1 0 1 (by omega) true _ 10 (by decide) (fun p W hsl hr => df_3e W p a cap l hsl at_ hr s hs (at_ + 1) (at_ + 2) (at_ + 7) 10 (by decide) (k1 p) (k2 p) (k3 p))
  subst hq3
  obtain ⟨_, hp3, hL⟩ := getN_place g3
  obtain ⟨⟨S, q4⟩, g4⟩ : ∃ p, getN l (at_ + 7) 6 = p := ⟨_, rfl⟩
  have k4 := fun p => tk_i hl9 a cap p (by omega) (by decide : 6 ≤ 64) g4 6 (at_ + 13) rfl (by omega)
  by_cases hq4 : q4 = 0
  rotate_left
  · obtain ⟨rfl, rfl⟩ := getN_e g4 hq4
    rw [getX_C3b hh g1 g2 (by rw [g3]) (by rw [g4]; decide)]
    exact xget_e l hl a cap at_ hat s hs hsd hh w hb 1 0 g1 L 1 (by omega) true _ 10 (by decide) (fun p W hsl hr => df_3f W p a cap l hsl at_ hr s hs (at_ + 1) (at_ + 2) (at_ + 7) (at_ + 13) L hL 10 (by decide) (k1 p) (k2 p) (k3 p) (k4 p))
  subst hq4
  obtain ⟨_, hp4, hS⟩ := getN_place g4
  by_cases h64 : 64 < L + (S + 1)
  · rw [getX_C3c hh g1 g2 g3 g4 h64]
    exact xget_e l hl a cap at_ hat s hs hsd hh w hb 1 0 g1 L (S + 1) (by omega) true _ 30 (by decide) (fun p W hsl hr => df_3g W p a cap l hsl at_ hr s hs (at_ + 1) (at_ + 2) (at_ + 7) (at_ + 13) L S hL hS h64 (k1 p) (k2 p) (k3 p) (k4 p))
  obtain ⟨⟨d0, q5⟩, g5⟩ : ∃ p, getN l (at_ + 13) (S + 1) = p := ⟨_, rfl⟩
  have k5 := fun p => tk_i hl9 a cap p (by omega) (by omega : S + 1 ≤ 64) g5 ((S : Int) + 1) (at_ + 13 + (S + 1 : Nat)) (by omega) rfl
  have kd := fun p W hsl hr => df_3h W p a cap l hsl at_ hr s hs (at_ + 1) (at_ + 2) (at_ + 7) (at_ + 13) (at_ + 13 + (S + 1 : Nat)) L S d0 q5 hL hS h64 (k1 p) (k2 p) (k3 p) (k4 p) (k5 p)
  by_cases hq5 : q5 = 0
  rotate_left
  · obtain ⟨rfl, rfl⟩ := getN_e g5 hq5
    rw [getX_C3d hh g1 g2 g3 g4 h64 (by rw [g5]; decide)]
    have e0 : 0 <<< (64 - L - (S + 1)) % 18446744073709551616 = 0 := by simp
    rw [e0] at kd
    exact xget_e l hl a cap at_ hat s hs hsd hh w hb 1 0 g1 L (S + 1) (by omega) true _ 10 (by decide) kd
  · subst hq5
    rw [getX_C3e hh g1 g2 g3 g4 h64 g5]
    have hd := shl_lt64 d0 (64 - L - (S + 1))
    generalize d0 <<< (64 - L - (S + 1)) % 18446744073709551616 = d at *
    by_cases h0 : d = 0
    · subst h0
      rw [if_pos (.inl rfl)]
      exact xget_new0 l hl a cap at_ hat s hs hsd hh w hT hb 0 g1 _ L (S + 1) (by omega) kd
    · cases hib : inBand s.lead s.width d
      · by_cases hcl : L = aLead d
        · by_cases hcs : S + 1 = aSize d
          · rw [if_neg (by rintro (h | h | h); exact h0 h; cases h; exact h ⟨hcl, hcs⟩)]
            exact xget_newd l hl a cap at_ hat s hs hsd hh w hT hb 0 g1 _ d L (S + 1) hd h0 (by omega) kd hib ⟨hcl, hcs⟩
          · rw [if_pos (.inr (.inr fun h => hcs h.2))]
            exact xget_newc2 l hl a cap at_ hat s hs hsd hh w hT hb 0 g1 _ d L (S + 1) hd h0 (by omega) kd hib hcl hcs
        · rw [if_pos (.inr (.inr fun h => hcl h.1))]
          exact xget_newc1 l hl a cap at_ hat s hs hsd hh w hT hb 0 g1 _ d L (S + 1) hd h0 (by omega) kd hib hcl
      · rw [if_pos (.inr (.inl rfl))]
        exact xget_newb l hl a cap at_ hat s hs hsd hh w hT hb 0 g1 _ d L (S + 1) hd h0 (by omega) kd hib
end Go.Proofs.YthljlajdkdgieaaDoor
namespace Go.Proofs.YthljlajdkdgieaaDoor
set_option linter.unusedVariables false
set_option linter.unusedSimpArgs false
open Go.RowKit

/-- The same with the values laid out. -/
def XpN (w : World) (L : List Bool) (N : Int) (tv : Value) (en : Ending) (w' : World) : Prop :=
  ∃ a c, en = .returned (.tuple #[bv a (pack L).length c N, tv, .int .u16 0]) ∧ (∃ e, w' = over w e) ∧ SlB w' a c (pack L)
theorem XpPost.n {w w' : World} {L : List Bool} {t : Vl} {en : Ending} (h : XpPost w L t en w') {N : Int} (hN : (L.length : Int) = N) {tv : Value} (ht : t.v = tv) : XpN w L N tv en w' := by
  subst hN ht; exact h

def kL1 : List Bool := [] ++ (written Vl.zero 1).1
def kL2 : List Bool := kL1 ++ (written ⟨true, 1, 0, 0⟩ 1).1
def kL3 : List Bool := kL2 ++ (written ⟨true, 1, 0, 0⟩ 3).1
def kL4 : List Bool := kL3 ++ (written ⟨true, 3, 31, 32⟩ 1).1
theorem kw1 : (written Vl.zero 1).2 = ⟨true, 1, 0, 0⟩ := by decide +kernel
theorem kw2 : (written ⟨true, 1, 0, 0⟩ 1).2 = ⟨true, 1, 0, 0⟩ := by decide +kernel
theorem kw3 : (written ⟨true, 1, 0, 0⟩ 3).2 = ⟨true, 3, 31, 32⟩ := by decide +kernel
theorem kw4 : (written ⟨true, 3, 31, 32⟩ 1).2 = ⟨true, 1, 31, 32⟩ := by decide +kernel
theorem kl1 : kL1.length = 64 := by decide +kernel
theorem kl2 : kL2.length = 65 := by decide +kernel
theorem kl3 : kL3.length = 110 := by decide +kernel
theorem kl4 : kL4.length = 144 := by decide +kernel
theorem zero_wf : Vl.zero.wf := by simp [Vl.wf, Vl.zero]

abbrev zv : Value := .agg #[.bool false, .int .u64 0, .int .u8 0, .int .u8 0]
set_option maxRecDepth 100000 in
set_option maxHeartbeats 2000000 in
theorem known03_any (w : World) (hT : TabW w) : Calls Tryd.prog 18 #[] w (Ret w (.bool true)) := by
  have HK1 : Hid (∀ W, TabW W → Calls Tryd.prog 21 #[.agg #[.slice none 0 0, .int .i64 0], .agg #[.bool false, .int .u64 0, .int .u8 0, .int .u8 0], .int .u64 1] W (XpN W kL1 64 (.agg #[.bool true, .int .u64 1, .int .u8 0, .int .u8 0]))) :=
    hid (fun W hW => (xput_yes [] (by simp) none 0 Vl.zero zero_wf (by decide) 1 (by decide) W (Sl.nil W) hW).mono fun _ _ h => by rw [kw1] at h; exact h.n (N := 64) (congrArg (Nat.cast (R := Int)) kl1) rfl)
  have HK2 : Hid (∀ W a c, TabW W → SlB W a c (pack kL1) → Calls Tryd.prog 21 #[.agg #[.slice a (pack kL1).length c, .int .i64 64], .agg #[.bool true, .int .u64 1, .int .u8 0, .int .u8 0], .int .u64 1] W (XpN W kL2 65 (.agg #[.bool true, .int .u64 1, .int .u8 0, .int .u8 0]))) :=
    hid (fun W a c hW hs => by
      have h0 := (xput_yes kL1 (by rw [kl1]; decide) a c ⟨true, 1, 0, 0⟩ (by simp [Vl.wf]) (by decide) 1 (by decide) W hs hW).mono fun _ _ h => by rw [kw2] at h; exact h.n (N := 65) (by rw [show (kL1 ++ (written ⟨true, 1, 0, 0⟩ 1).1).length = 65 from kl2]; rfl) rfl
      rw [kl1] at h0; exact h0)
  have HK3 : Hid (∀ W a c, TabW W → SlB W a c (pack kL2) → Calls Tryd.prog 21 #[.agg #[.slice a (pack kL2).length c, .int .i64 65], .agg #[.bool true, .int .u64 1, .int .u8 0, .int .u8 0], .int .u64 3] W (XpN W kL3 110 (.agg #[.bool true, .int .u64 3, .int .u8 31, .int .u8 32]))) :=
    hid (fun W a c hW hs => by
      have h0 := (xput_yes kL2 (by rw [kl2]; decide) a c ⟨true, 1, 0, 0⟩ (by simp [Vl.wf]) (by decide) 3 (by decide) W hs hW).mono fun _ _ h => by rw [kw3] at h; exact h.n (N := 110) (by rw [show (kL2 ++ (written ⟨true, 1, 0, 0⟩ 3).1).length = 110 from kl3]; rfl) rfl
      rw [kl2] at h0; exact h0)
  have HK4 : Hid (∀ W a c, TabW W → SlB W a c (pack kL3) → Calls Tryd.prog 21 #[.agg #[.slice a (pack kL3).length c, .int .i64 110], .agg #[.bool true, .int .u64 3, .int .u8 31, .int .u8 32], .int .u64 1] W (XpN W kL4 144 (.agg #[.bool true, .int .u64 1, .int .u8 31, .int .u8 32]))) :=
    hid (fun W a c hW hs => by
      have h0 := (xput_yes kL3 (by rw [kl3]; decide) a c ⟨true, 3, 31, 32⟩ (by simp [Vl.wf]) (by decide) 1 (by decide) W hs hW).mono fun _ _ h => by rw [kw4] at h; exact h.n (N := 144) (by rw [show (kL3 ++ (written ⟨true, 3, 31, 32⟩ 1).1).length = 144 from kl4]; rfl) rfl
      rw [kl3] at h0; exact h0)
  generalize kL1 = L1 at *
  generalize kL2 = L2 at *
  generalize kL3 = L3 at *
  generalize kL4 = L4 at *
  go_enter Tryd.func18, Tryd.ntmps18
  go_wp2_with (first | (go_at_call 21; (with_reducible refine (HK1.out _ (by repeat (first | with_reducible exact hT | with_reducible refine TabW.over ?_ _ | with_reducible refine TabW.alloc ?_ _ | with_reducible refine TabW.drew ?_ | ((with_reducible refine TabW.setCell ?_ ?_ _); rotate_left; (first | (focus (simp; done)) | (focus (simp; omega)))) | ((with_reducible refine TabW.chg ?_ _ ?_); rotate_left; (first | assumption | (focus (simp; done)) | (focus (simp; omega)))) | exact hT))).mono ?_); rintro _ _ ⟨a1, c1, rfl, ⟨e1, rfl⟩, s1⟩) | (go_at_call 21; (with_reducible refine (HK2.out _ _ _ (by repeat (first | with_reducible exact hT | with_reducible refine TabW.over ?_ _ | with_reducible refine TabW.alloc ?_ _ | with_reducible refine TabW.drew ?_ | ((with_reducible refine TabW.setCell ?_ ?_ _); rotate_left; (first | (focus (simp; done)) | (focus (simp; omega)))) | ((with_reducible refine TabW.chg ?_ _ ?_); rotate_left; (first | assumption | (focus (simp; done)) | (focus (simp; omega)))) | exact hT)) (by repeat (first | with_reducible exact s1 | with_reducible refine Sl.over ?_ _ | with_reducible refine Sl.alloc ?_ _ | with_reducible refine Sl.drew ?_ | exact s1))).mono ?_); rintro _ _ ⟨a2, c2, rfl, ⟨e2, rfl⟩, s2⟩) | (go_at_call 21; (with_reducible refine (HK3.out _ _ _ (by repeat (first | with_reducible exact hT | with_reducible refine TabW.over ?_ _ | with_reducible refine TabW.alloc ?_ _ | with_reducible refine TabW.drew ?_ | ((with_reducible refine TabW.setCell ?_ ?_ _); rotate_left; (first | (focus (simp; done)) | (focus (simp; omega)))) | ((with_reducible refine TabW.chg ?_ _ ?_); rotate_left; (first | assumption | (focus (simp; done)) | (focus (simp; omega)))) | exact hT)) (by repeat (first | with_reducible exact s2 | with_reducible refine Sl.over ?_ _ | with_reducible refine Sl.alloc ?_ _ | with_reducible refine Sl.drew ?_ | exact s2))).mono ?_); rintro _ _ ⟨a3, c3, rfl, ⟨e3, rfl⟩, s3⟩) | (go_at_call 21; (with_reducible refine (HK4.out _ _ _ (by repeat (first | with_reducible exact hT | with_reducible refine TabW.over ?_ _ | with_reducible refine TabW.alloc ?_ _ | with_reducible refine TabW.drew ?_ | ((with_reducible refine TabW.setCell ?_ ?_ _); rotate_left; (first | (focus (simp; done)) | (focus (simp; omega)))) | ((with_reducible refine TabW.chg ?_ _ ?_); rotate_left; (first | assumption | (focus (simp; done)) | (focus (simp; omega)))) | exact hT)) (by repeat (first | with_reducible exact s3 | with_reducible refine Sl.over ?_ _ | with_reducible refine Sl.alloc ?_ _ | with_reducible refine Sl.drew ?_ | exact s3))).mono ?_); rintro _ _ ⟨a4, c4, rfl, ⟨e4, rfl⟩, s4⟩))
  go_ret
  exact ⟨(by (try unfold Ov); repeat (first | with_reducible exact ex_over | with_reducible exact over_self _ | with_reducible refine ex_undrew ?_ | with_reducible refine ex_into ?_ _ | with_reducible refine ex_alloc ?_ _ | with_reducible refine ex_drew ?_ | ((with_reducible refine ex_setCell ?_ ?_ _); rotate_left; (first | omega | (focus (simp; done)) | (focus (simp; omega)))) | ((with_reducible refine ex_chg ?_ _ ?_); rotate_left; (first | assumption | (exact Hid.out (by assumption)))) | exact ex_over)), rfl⟩

set_option maxRecDepth 100000 in
set_option maxHeartbeats 1000000 in
theorem xorSounds_any (s : Vl) (hs : s.wf) (w : World) (hT : TabW w) : Calls Tryd.prog 3 #[s.v] w (Ret w (.bool true)) := by
  have HK := hid (fun W hW => known03_any W hW)
  have H1 := hid (fun W => xsound_any s hs W)
  have H2 := hid (fun W => rxsound_any s hs W)
  obtain ⟨hs1, hs2, hs3⟩ := hs
  cases g : soundV s
  all_goals
    rw [g] at H1 H2
    go_enter Tryd.func3, Tryd.ntmps3
    go_wp2
    refine wp_region_over (by kernel_rfl) (by kernel_rfl) ?_
    repeat (go_big_quiet_step ((first | (go_at_call 18; exact quiet_over (HK.out _ (by repeat (first | with_reducible exact hT | with_reducible refine TabW.over ?_ _ | with_reducible refine TabW.alloc ?_ _ | with_reducible refine TabW.drew ?_ | ((with_reducible refine TabW.setCell ?_ ?_ _); rotate_left; (first | (focus (simp; done)) | (focus (simp; omega)))) | ((with_reducible refine TabW.chg ?_ _ ?_); rotate_left; (first | assumption | (focus (simp; done)) | (focus (simp; omega)))) | exact hT)))) | (go_at_call 19; exact quiet_over (H1.out _)) | (go_at_call 20; exact quiet_over (H2.out _)))))
    refine wpQuiet_nil ?_
    intro _ hw'
    obtain ⟨nq, rfl⟩ := hw'
    go_wp2
    go_ret
    exact ⟨(by (try unfold Ov); repeat (first | with_reducible exact ex_over | with_reducible exact over_self _ | with_reducible refine ex_undrew ?_ | with_reducible refine ex_into ?_ _ | with_reducible refine ex_alloc ?_ _ | with_reducible refine ex_drew ?_ | ((with_reducible refine ex_setCell ?_ ?_ _); rotate_left; (first | omega | (focus (simp; done)) | (focus (simp; omega)))) | ((with_reducible refine ex_chg ?_ _ ?_); rotate_left; (first | assumption | (exact Hid.out (by assumption)))) | exact ex_over)), rfl⟩

set_option maxRecDepth 100000 in
set_option maxHeartbeats 4000000 in
theorem xorPuts_any (bs : List Nat) (hbs : ∀ b ∈ bs, b < 256) (N : Int) (hN : -9223372036854775808 ≤ N ∧ N ≤ 9223372036854775807) (a : Option Addr) (cap : Nat) (s : Vl) (hs : s.wf) (v : Nat) (hv : v < 18446744073709551616) (w : World) (hT : TabW w) (hb : SlB w a cap bs) :
    Calls Tryd.prog 4 #[bv a bs.length cap N, s.v, .int .u64 (v : Nat)] w (Ret w (.bool true)) := by
  have HK := hid (fun W hW => known03_any W hW)
  have hmax := len_max hb
  by_cases hlen : (500 : Int) < (bs.length : Int)
  · obtain ⟨hs1, hs2, hs3⟩ := hs
    go_enter Tryd.func4, Tryd.ntmps4
    go_wp2_with (go_at_call 18; (with_reducible refine (HK.out _ (by repeat (first | with_reducible exact hT | with_reducible refine TabW.over ?_ _ | with_reducible refine TabW.alloc ?_ _ | with_reducible refine TabW.drew ?_ | ((with_reducible refine TabW.setCell ?_ ?_ _); rotate_left; (first | (focus (simp; done)) | (focus (simp; omega)))) | ((with_reducible refine TabW.chg ?_ _ ?_); rotate_left; (first | assumption | (focus (simp; done)) | (focus (simp; omega)))) | exact hT))).mono ?_); rintro _ _ ⟨⟨e1, rfl⟩, rfl⟩)
    go_ret
    exact ⟨(by (try unfold Ov); repeat (first | with_reducible exact ex_over | with_reducible exact over_self _ | with_reducible refine ex_undrew ?_ | with_reducible refine ex_into ?_ _ | with_reducible refine ex_alloc ?_ _ | with_reducible refine ex_drew ?_ | ((with_reducible refine ex_setCell ?_ ?_ _); rotate_left; (first | omega | (focus (simp; done)) | (focus (simp; omega)))) | ((with_reducible refine ex_chg ?_ _ ?_); rotate_left; (first | assumption | (exact Hid.out (by assumption)))) | exact ex_over)), rfl⟩
  have hl : bs.length ≤ 1000000 := by omega
  by_cases hn : wrongX (soundB bs N) (soundV s) = 0
  · have hg1 : soundB bs N = true := by
      cases g : soundB bs N
      · rw [g] at hn; simp [wrongX] at hn
      · rfl
    have hg2 : soundV s = true := by
      cases g : soundV s
      · rw [g, hg1] at hn; simp [wrongX] at hn
      · rfl
    obtain ⟨l, rfl, rfl⟩ := sound_list hbs hg1
    have hll : l.length ≤ 800000 := by rw [pack_length] at hlen; unfold nb at hlen; omega
    have HP := hid (fun W h1 h2 => xput_yes l hll a cap s hs hg2 v hv W h1 h2)
    have HR := hid (fun W h1 => rxput_yes l hll a cap s hs hg2 v hv W h1)
    generalize l ++ (written s v).1 = L at *
    generalize (written s v).2 = t at *
    have HS := hid (fun b1 c1 b2 c2 W h1 h2 => rsame_any (pack L) (pack L) pack_lt pack_lt L.length L.length b1 c1 b2 c2 W h1 h2)
    rw [decide_eq_true rfl, decide_eq_true rfl] at HS
    clear hn hg1 hg2
    obtain ⟨hs1, hs2, hs3⟩ := hs
    go_enter Tryd.func4, Tryd.ntmps4
    go_wp2_with (first | (go_at_call 18; (with_reducible refine (HK.out _ (by repeat (first | with_reducible exact hT | with_reducible refine TabW.over ?_ _ | with_reducible refine TabW.alloc ?_ _ | with_reducible refine TabW.drew ?_ | ((with_reducible refine TabW.setCell ?_ ?_ _); rotate_left; (first | (focus (simp; done)) | (focus (simp; omega)))) | ((with_reducible refine TabW.chg ?_ _ ?_); rotate_left; (first | assumption | (focus (simp; done)) | (focus (simp; omega)))) | exact hT))).mono ?_); rintro _ _ ⟨⟨e1, rfl⟩, rfl⟩) | (go_at_call 21; (with_reducible refine (HP.out _ (by repeat (first | with_reducible exact hb | with_reducible refine Sl.over ?_ _ | with_reducible refine Sl.alloc ?_ _ | with_reducible refine Sl.drew ?_ | exact hb)) (by repeat (first | with_reducible exact hT | with_reducible refine TabW.over ?_ _ | with_reducible refine TabW.alloc ?_ _ | with_reducible refine TabW.drew ?_ | ((with_reducible refine TabW.setCell ?_ ?_ _); rotate_left; (first | (focus (simp; done)) | (focus (simp; omega)))) | ((with_reducible refine TabW.chg ?_ _ ?_); rotate_left; (first | assumption | (focus (simp; done)) | (focus (simp; omega)))) | exact hT))).mono ?_); rintro _ _ ⟨a2, c2, rfl, ⟨e2, rfl⟩, s2⟩) | (go_at_call 22; (with_reducible refine (HR.out _ (by repeat (first | with_reducible exact hb | with_reducible refine Sl.over ?_ _ | with_reducible refine Sl.alloc ?_ _ | with_reducible refine Sl.drew ?_ | exact hb))).mono ?_); rintro _ _ ⟨a3, c3, rfl, ⟨e3, rfl⟩, s3⟩) | (go_at_call 23; (with_reducible refine (HS.out _ _ _ _ _ (by repeat (first | with_reducible exact s2 | with_reducible refine Sl.over ?_ _ | with_reducible refine Sl.alloc ?_ _ | with_reducible refine Sl.drew ?_ | exact s2)) (by repeat (first | with_reducible exact s3 | with_reducible refine Sl.over ?_ _ | with_reducible refine Sl.alloc ?_ _ | with_reducible refine Sl.drew ?_ | exact s3))).mono ?_); rintro _ _ ⟨⟨e4, rfl⟩, rfl⟩))
    go_ret
    exact ⟨(by (try unfold Ov); repeat (first | with_reducible exact ex_over | with_reducible exact over_self _ | with_reducible refine ex_undrew ?_ | with_reducible refine ex_into ?_ _ | with_reducible refine ex_alloc ?_ _ | with_reducible refine ex_drew ?_ | ((with_reducible refine ex_setCell ?_ ?_ _); rotate_left; (first | omega | (focus (simp; done)) | (focus (simp; omega)))) | ((with_reducible refine ex_chg ?_ _ ?_); rotate_left; (first | assumption | (exact Hid.out (by assumption)))) | exact ex_over)), rfl⟩
  · have HP := hid (fun W h1 => xput_no bs hbs hl N hN a cap s hs v W h1 hn)
    have HR := hid (fun W h1 => rxput_no bs hbs hl N hN a cap s hs v W h1 hn)
    have HS : Hid (∀ W, Calls Tryd.prog 23 #[.agg #[.slice none 0 0, .int .i64 0], .agg #[.slice none 0 0, .int .i64 0]] W (Ret W (.bool true))) := hid (fun W => rsame_any [] [] (by simp) (by simp) 0 0 none 0 none 0 W (Sl.nil W) (Sl.nil W))
    have hw : wrongX (soundB bs N) (soundV s) = 11 ∨ wrongX (soundB bs N) (soundV s) = 30 := by
      unfold wrongX at hn ⊢; split at hn
      · split at hn
        · exact absurd rfl hn
        · rename_i h1 h2; rw [if_pos h1, if_neg h2]; exact .inr rfl
      · rename_i h1; rw [if_neg h1]; exact .inl rfl
    obtain ⟨hs1, hs2, hs3⟩ := hs
    rcases hw with hw | hw
    all_goals
      rw [hw] at HP HR
      clear hw hn
      have HP' : Hid (∀ W, SlB W a cap bs → Calls Tryd.prog 21 #[bv a bs.length cap N, s.v, .int .u64 (v : Nat)] W (Ret W (.tuple #[.agg #[.slice none 0 0, .int .i64 0], .agg #[.bool false, .int .u64 0, .int .u8 0, .int .u8 0], .int .u16 _]))) := HP
      have HR' : Hid (∀ W, SlB W a cap bs → Calls Tryd.prog 22 #[bv a bs.length cap N, s.v, .int .u64 (v : Nat)] W (Ret W (.tuple #[.agg #[.slice none 0 0, .int .i64 0], .agg #[.bool false, .int .u64 0, .int .u8 0, .int .u8 0], .int .i64 _]))) := HR
      clear HP HR
      go_enter Tryd.func4, Tryd.ntmps4
      go_wp2_with (first | (go_at_call 18; (with_reducible refine (HK.out _ (by repeat (first | with_reducible exact hT | with_reducible refine TabW.over ?_ _ | with_reducible refine TabW.alloc ?_ _ | with_reducible refine TabW.drew ?_ | ((with_reducible refine TabW.setCell ?_ ?_ _); rotate_left; (first | (focus (simp; done)) | (focus (simp; omega)))) | ((with_reducible refine TabW.chg ?_ _ ?_); rotate_left; (first | assumption | (focus (simp; done)) | (focus (simp; omega)))) | exact hT))).mono ?_); rintro _ _ ⟨⟨e1, rfl⟩, rfl⟩) | (go_at_call 21; (with_reducible refine (HP'.out _ (by repeat (first | with_reducible exact hb | with_reducible refine Sl.over ?_ _ | with_reducible refine Sl.alloc ?_ _ | with_reducible refine Sl.drew ?_ | exact hb))).mono ?_); rintro _ _ ⟨⟨e2, rfl⟩, rfl⟩) | (go_at_call 22; (with_reducible refine (HR'.out _ (by repeat (first | with_reducible exact hb | with_reducible refine Sl.over ?_ _ | with_reducible refine Sl.alloc ?_ _ | with_reducible refine Sl.drew ?_ | exact hb))).mono ?_); rintro _ _ ⟨⟨e3, rfl⟩, rfl⟩) | (go_at_call 23; (with_reducible refine (HS.out _).mono ?_); rintro _ _ ⟨⟨e4, rfl⟩, rfl⟩))
      go_ret
      exact ⟨(by (try unfold Ov); repeat (first | with_reducible exact ex_over | with_reducible exact over_self _ | with_reducible refine ex_undrew ?_ | with_reducible refine ex_into ?_ _ | with_reducible refine ex_alloc ?_ _ | with_reducible refine ex_drew ?_ | ((with_reducible refine ex_setCell ?_ ?_ _); rotate_left; (first | omega | (focus (simp; done)) | (focus (simp; omega)))) | ((with_reducible refine ex_chg ?_ _ ?_); rotate_left; (first | assumption | (exact Hid.out (by assumption)))) | exact ex_over)), rfl⟩

set_option maxRecDepth 100000 in
set_option maxHeartbeats 4000000 in
theorem xorSame_any (s : Vl) (hs : s.wf) (v : Nat) (hv : v < 18446744073709551616) (w : World) (hT : TabW w) :
    Calls Tryd.prog 5 #[s.v, .int .u64 (v : Nat)] w (Ret w (.bool true)) := by
  have HK := hid (fun W hW => known03_any W hW)
  have H1 := hid (fun W => xsound_any s hs W)
  cases g : soundV s
  · rw [g] at H1
    obtain ⟨hs1, hs2, hs3⟩ := hs
    go_enter Tryd.func5, Tryd.ntmps5
    go_wp2_with (first | (go_at_call 18; (with_reducible refine (HK.out _ (by repeat (first | with_reducible exact hT | with_reducible refine TabW.over ?_ _ | with_reducible refine TabW.alloc ?_ _ | with_reducible refine TabW.drew ?_ | ((with_reducible refine TabW.setCell ?_ ?_ _); rotate_left; (first | (focus (simp; done)) | (focus (simp; omega)))) | ((with_reducible refine TabW.chg ?_ _ ?_); rotate_left; (first | assumption | (focus (simp; done)) | (focus (simp; omega)))) | exact hT))).mono ?_); rintro _ _ ⟨⟨e1, rfl⟩, rfl⟩) | (go_at_call 19; (with_reducible refine (H1.out _).mono ?_); rintro _ _ ⟨⟨e2, rfl⟩, rfl⟩))
    go_ret
    exact ⟨(by (try unfold Ov); repeat (first | with_reducible exact ex_over | with_reducible exact over_self _ | with_reducible refine ex_undrew ?_ | with_reducible refine ex_into ?_ _ | with_reducible refine ex_alloc ?_ _ | with_reducible refine ex_drew ?_ | ((with_reducible refine ex_setCell ?_ ?_ _); rotate_left; (first | omega | (focus (simp; done)) | (focus (simp; omega)))) | ((with_reducible refine ex_chg ?_ _ ?_); rotate_left; (first | assumption | (exact Hid.out (by assumption)))) | exact ex_over)), rfl⟩
  · rw [g] at H1
    have hws := written_sound g hs hv
    have hwl := (written_len g hs hv).1
    have hwm := written_same (v := v) g
    have HP : Hid (∀ W, TabW W → Calls Tryd.prog 21 #[.agg #[.slice none 0 0, .int .i64 0], s.v, .int .u64 (v : Nat)] W (XpPost W ([] ++ (written s v).1) (written s v).2)) := hid (fun W hW => xput_yes [] (by simp) none 0 s hs g v hv W (Sl.nil W) hW)
    rw [List.nil_append] at HP
    have HQ := hid (fun b1 c1 W h1 h2 => xput_yes (written s v).1 (by omega) b1 c1 (written s v).2 hws.2.2.2 hws.1 v hv W h1 h2)
    rw [hwm] at HQ
    generalize (written s v).1 = L at *
    generalize (written s v).2 = t at *
    obtain ⟨L2, hL2⟩ : ∃ L2, L ++ [false] = L2 := ⟨_, rfl⟩
    rw [show L ++ ([false], t).1 = L2 from hL2] at HQ
    have hl2 : (L2.length : Int) = (L.length : Int) + 1 := by rw [← hL2]; simp
    have hl77 : (L.length : Int) ≤ 77 := by omega
    clear hws hwm hwl hL2
    have HL2 := hid hl2
    clear hl2
    have ht := t.has
    obtain ⟨hs1, hs2, hs3⟩ := hs
    go_enter Tryd.func5, Tryd.ntmps5
    go_wp2_with (first | (go_at_call 18; (with_reducible refine (HK.out _ (by repeat (first | with_reducible exact hT | with_reducible refine TabW.over ?_ _ | with_reducible refine TabW.alloc ?_ _ | with_reducible refine TabW.drew ?_ | ((with_reducible refine TabW.setCell ?_ ?_ _); rotate_left; (first | (focus (simp; done)) | (focus (simp; omega)))) | ((with_reducible refine TabW.chg ?_ _ ?_); rotate_left; (first | assumption | (focus (simp; done)) | (focus (simp; omega)))) | exact hT))).mono ?_); rintro _ _ ⟨⟨e1, rfl⟩, rfl⟩) | (go_at_call 19; (with_reducible refine (H1.out _).mono ?_); rintro _ _ ⟨⟨e2, rfl⟩, rfl⟩) | (go_at_call 21; (with_reducible refine (HP.out _ (by repeat (first | with_reducible exact hT | with_reducible refine TabW.over ?_ _ | with_reducible refine TabW.alloc ?_ _ | with_reducible refine TabW.drew ?_ | ((with_reducible refine TabW.setCell ?_ ?_ _); rotate_left; (first | (focus (simp; done)) | (focus (simp; omega)))) | ((with_reducible refine TabW.chg ?_ _ ?_); rotate_left; (first | assumption | (focus (simp; done)) | (focus (simp; omega)))) | exact hT))).mono ?_); rintro _ _ ⟨a2, c2, rfl, ⟨e2, rfl⟩, s2⟩) | (go_at_call 21; (with_reducible refine (HQ.out _ _ _ (by repeat (first | with_reducible exact s2 | with_reducible refine Sl.over ?_ _ | with_reducible refine Sl.alloc ?_ _ | with_reducible refine Sl.drew ?_ | exact s2)) (by repeat (first | with_reducible exact hT | with_reducible refine TabW.over ?_ _ | with_reducible refine TabW.alloc ?_ _ | with_reducible refine TabW.drew ?_ | ((with_reducible refine TabW.setCell ?_ ?_ _); rotate_left; (first | (focus (simp; done)) | (focus (simp; omega)))) | ((with_reducible refine TabW.chg ?_ _ ?_); rotate_left; (first | assumption | (focus (simp; done)) | (focus (simp; omega)))) | exact hT))).mono ?_); rintro _ _ ⟨a3, c3, rfl, ⟨e3, rfl⟩, s3⟩))
    go_ret
    exact ⟨(by (try unfold Ov); repeat (first | with_reducible exact ex_over | with_reducible exact over_self _ | with_reducible refine ex_undrew ?_ | with_reducible refine ex_into ?_ _ | with_reducible refine ex_alloc ?_ _ | with_reducible refine ex_drew ?_ | ((with_reducible refine ex_setCell ?_ ?_ _); rotate_left; (first | omega | (focus (simp; done)) | (focus (simp; omega)))) | ((with_reducible refine ex_chg ?_ _ ?_); rotate_left; (first | assumption | (exact Hid.out (by assumption)))) | exact ex_over)), rfl⟩
end Go.Proofs.YthljlajdkdgieaaDoor
namespace Go.Proofs.YthljlajdkdgieaaDoor
set_option linter.unusedVariables false
set_option linter.unusedSimpArgs false
open Go.RowKit
attribute [local go_sem] over_drew

theorem getX_lt {l : List Bool} {at_ : Int} {s : Vl} (hs : s.wf) : (getX l at_ s).1 < 18446744073709551616 := by
  unfold getX
  split
  · exact Nat.zero_lt_succ _
  split
  · exact Nat.zero_lt_succ _
  split
  · exact valueX_lt hs
  · exact Nat.zero_lt_succ _
theorem getX_zero {l : List Bool} {at_ : Int} {s : Vl} (h : (getX l at_ s).2.2.2 ≠ 0) : getX l at_ s = (0, 0, Vl.zero, (getX l at_ s).2.2.2) := by
  unfold getX at *
  split
  · rfl
  rename_i h1
  rw [if_neg h1] at h
  split
  · rfl
  rename_i h2
  rw [if_neg h2] at h
  split
  · rename_i h3; rw [if_pos h3] at h; exact absurd rfl h
  · rfl

theorem valueX_e (l : List Bool) (at_ : Int) (s : Vl) : (valueX l at_ s).2.2 ≤ 30 := by
  have hg : ∀ a W, (getN l a W).2 ≤ 30 := fun a W => by rcases getN_err l a W with h | h <;> rw [h] <;> decide
  unfold valueX
  repeat' split
  all_goals first | exact hg _ _ | exact Nat.le_refl _ | exact Nat.zero_le _
theorem getX_e (l : List Bool) (at_ : Int) (s : Vl) : (getX l at_ s).2.2.2 ≤ 30 := by
  unfold getX
  split
  · show 10 ≤ 30; decide
  split
  · exact valueX_e l at_ s
  split
  · exact Nat.zero_le _
  · exact Nat.le_refl _
theorem wrongX_e (a b : Bool) : wrongX a b ≤ 30 := by cases a <;> cases b <;> decide

set_option maxRecDepth 100000 in
set_option maxHeartbeats 4000000 in
theorem xorGets_any (bs : List Nat) (hbs : ∀ b ∈ bs, b < 256) (N : Int) (hN : -9223372036854775808 ≤ N ∧ N ≤ 9223372036854775807) (a : Option Addr) (cap : Nat) (at_ : Int) (hat : -9223372036854775808 ≤ at_ ∧ at_ ≤ 9223372036854775807) (s : Vl) (hs : s.wf) (w : World) (hT : TabW w) (hb : SlB w a cap bs) :
    Calls Tryd.prog 9 #[bv a bs.length cap N, .int .i64 at_, s.v] w (Ret w (.bool true)) := by
  have HK := hid (fun W hW => known03_any W hW)
  have hmax := len_max hb
  by_cases hlen : (500 : Int) < (bs.length : Int)
  · obtain ⟨hs1, hs2, hs3⟩ := hs
    go_enter Tryd.func9, Tryd.ntmps9
    go_wp2_with (go_at_call 18; (with_reducible refine (HK.out _ (by repeat (first | with_reducible exact hT | with_reducible refine TabW.over ?_ _ | with_reducible refine TabW.alloc ?_ _ | with_reducible refine TabW.drew ?_ | ((with_reducible refine TabW.setCell ?_ ?_ _); rotate_left; (first | (focus (simp; done)) | (focus (simp; omega)))) | ((with_reducible refine TabW.chg ?_ _ ?_); rotate_left; (first | assumption | (focus (simp; done)) | (focus (simp; omega)))) | exact hT))).mono ?_); rintro _ _ ⟨⟨e1, rfl⟩, rfl⟩)
    go_ret
    exact ⟨(by (try unfold Ov); repeat (first | with_reducible exact ex_over | with_reducible exact over_self _ | with_reducible refine ex_undrew ?_ | with_reducible refine ex_into ?_ _ | with_reducible refine ex_alloc ?_ _ | with_reducible refine ex_drew ?_ | ((with_reducible refine ex_setCell ?_ ?_ _); rotate_left; (first | omega | (focus (simp; done)) | (focus (simp; omega)))) | ((with_reducible refine ex_chg ?_ _ ?_); rotate_left; (first | assumption | (exact Hid.out (by assumption)))) | exact ex_over)), rfl⟩
  have hl : bs.length ≤ 1000000 := by omega
  have hG : ∃ (v : Nat) (n : Int) (t : Vl) (e : Nat), e ≤ 30 ∧ (∀ W, TabW W → SlB W a cap bs → Calls Tryd.prog 31 #[bv a bs.length cap N, .int .i64 at_, s.v] W (Ret W (xgV v n t e))) ∧ (∀ W, SlB W a cap bs → Calls Tryd.prog 32 #[bv a bs.length cap N, .int .i64 at_, s.v] W (Ret W (rxgV v n t e))) := by
    by_cases hn : wrongX (soundB bs N) (soundV s) = 0
    · have hg1 : soundB bs N = true := by
        cases g : soundB bs N
        · rw [g] at hn; simp [wrongX] at hn
        · rfl
      have hg2 : soundV s = true := by
        cases g : soundV s
        · rw [g, hg1] at hn; simp [wrongX] at hn
        · rfl
      obtain ⟨l, rfl, rfl⟩ := sound_list hbs hg1
      have hll : l.length ≤ 800000 := by rw [pack_length] at hlen; unfold nb at hlen; omega
      exact ⟨_, _, _, _, getX_e l at_ s, fun W h1 h2 => xget_yes l hll a cap at_ hat s hs hg2 W h1 h2, fun W h1 => rxget_yes l hll a cap at_ hat s hs hg2 W h1⟩
    · exact ⟨_, _, _, _, wrongX_e _ _, fun W h1 h2 => xget_no bs hbs hl N hN a cap at_ s hs W h2 hn, fun W h1 => rxget_no bs hbs hl N hN a cap at_ s hs W h1 hn⟩
  obtain ⟨v, n, t, e, he30, h1, h2⟩ := hG
  have he31 : (e : Int) ≤ 30 := by omega
  have HX := hid h1
  have HR := hid h2
  clear h1 h2
  obtain ⟨th, tp, tl, tw⟩ := t
  obtain ⟨hs1, hs2, hs3⟩ := hs
  have HX' : Hid (∀ W, TabW W → SlB W a cap bs → Calls Tryd.prog 31 #[bv a bs.length cap N, .int .i64 at_, s.v] W (Ret W (.tuple #[.int .u64 (v : Nat), .int .i64 n, .agg #[.bool th, .int .u64 (tp : Nat), .int .u8 (tl : Nat), .int .u8 (tw : Nat)], .int .u16 (e : Nat)]))) := HX
  have HR' : Hid (∀ W, SlB W a cap bs → Calls Tryd.prog 32 #[bv a bs.length cap N, .int .i64 at_, s.v] W (Ret W (.tuple #[.int .u64 (v : Nat), .int .i64 n, .agg #[.bool th, .int .u64 (tp : Nat), .int .u8 (tl : Nat), .int .u8 (tw : Nat)], .int .i64 (e : Nat)]))) := HR
  clear HX HR
  go_enter Tryd.func9, Tryd.ntmps9
  go_wp2_with (first | (go_at_call 18; (with_reducible refine (HK.out _ (by repeat (first | with_reducible exact hT | with_reducible refine TabW.over ?_ _ | with_reducible refine TabW.alloc ?_ _ | with_reducible refine TabW.drew ?_ | ((with_reducible refine TabW.setCell ?_ ?_ _); rotate_left; (first | (focus (simp; done)) | (focus (simp; omega)))) | ((with_reducible refine TabW.chg ?_ _ ?_); rotate_left; (first | assumption | (focus (simp; done)) | (focus (simp; omega)))) | exact hT))).mono ?_); rintro _ _ ⟨⟨e1, rfl⟩, rfl⟩) | (go_at_call 31; (with_reducible refine (HX'.out _ (by repeat (first | with_reducible exact hT | with_reducible refine TabW.over ?_ _ | with_reducible refine TabW.alloc ?_ _ | with_reducible refine TabW.drew ?_ | ((with_reducible refine TabW.setCell ?_ ?_ _); rotate_left; (first | (focus (simp; done)) | (focus (simp; omega)))) | ((with_reducible refine TabW.chg ?_ _ ?_); rotate_left; (first | assumption | (focus (simp; done)) | (focus (simp; omega)))) | exact hT)) (by repeat (first | with_reducible exact hb | with_reducible refine Sl.over ?_ _ | with_reducible refine Sl.alloc ?_ _ | with_reducible refine Sl.drew ?_ | exact hb))).mono ?_); rintro _ _ ⟨⟨e2, rfl⟩, rfl⟩) | (go_at_call 32; (with_reducible refine (HR'.out _ (by repeat (first | with_reducible exact hb | with_reducible refine Sl.over ?_ _ | with_reducible refine Sl.alloc ?_ _ | with_reducible refine Sl.drew ?_ | exact hb))).mono ?_); rintro _ _ ⟨⟨e3, rfl⟩, rfl⟩))
  go_ret
  exact ⟨(by (try unfold Ov); repeat (first | with_reducible exact ex_over | with_reducible exact over_self _ | with_reducible refine ex_undrew ?_ | with_reducible refine ex_into ?_ _ | with_reducible refine ex_alloc ?_ _ | with_reducible refine ex_drew ?_ | ((with_reducible refine ex_setCell ?_ ?_ _); rotate_left; (first | omega | (focus (simp; done)) | (focus (simp; omega)))) | ((with_reducible refine ex_chg ?_ _ ?_); rotate_left; (first | assumption | (exact Hid.out (by assumption)))) | exact ex_over)), rfl⟩

set_option maxRecDepth 100000 in
set_option maxHeartbeats 4000000 in
theorem xorOnly_any (bs : List Nat) (hbs : ∀ b ∈ bs, b < 256) (N : Int) (hN : -9223372036854775808 ≤ N ∧ N ≤ 9223372036854775807) (a : Option Addr) (cap : Nat) (at_ : Int) (hat : -9223372036854775808 ≤ at_ ∧ at_ ≤ 9223372036854775807) (s : Vl) (hs : s.wf) (w : World) (hT : TabW w) (hb : SlB w a cap bs) :
    Calls Tryd.prog 11 #[bv a bs.length cap N, .int .i64 at_, s.v] w (Ret w (.bool true)) := by
  have HK := hid (fun W hW => known03_any W hW)
  have hmax := len_max hb
  by_cases hlen : (500 : Int) < (bs.length : Int)
  · obtain ⟨hs1, hs2, hs3⟩ := hs
    go_enter Tryd.func11, Tryd.ntmps11
    go_wp2_with (go_at_call 18; (with_reducible refine (HK.out _ (by repeat (first | with_reducible exact hT | with_reducible refine TabW.over ?_ _ | with_reducible refine TabW.alloc ?_ _ | with_reducible refine TabW.drew ?_ | ((with_reducible refine TabW.setCell ?_ ?_ _); rotate_left; (first | (focus (simp; done)) | (focus (simp; omega)))) | ((with_reducible refine TabW.chg ?_ _ ?_); rotate_left; (first | assumption | (focus (simp; done)) | (focus (simp; omega)))) | exact hT))).mono ?_); rintro _ _ ⟨⟨e1, rfl⟩, rfl⟩)
    go_ret
    exact ⟨(by (try unfold Ov); repeat (first | with_reducible exact ex_over | with_reducible exact over_self _ | with_reducible refine ex_undrew ?_ | with_reducible refine ex_into ?_ _ | with_reducible refine ex_alloc ?_ _ | with_reducible refine ex_drew ?_ | ((with_reducible refine ex_setCell ?_ ?_ _); rotate_left; (first | omega | (focus (simp; done)) | (focus (simp; omega)))) | ((with_reducible refine ex_chg ?_ _ ?_); rotate_left; (first | assumption | (exact Hid.out (by assumption)))) | exact ex_over)), rfl⟩
  have hl : bs.length ≤ 1000000 := by omega
  have hG : (∃ e : Nat, e ≠ 0 ∧ (∀ W, TabW W → SlB W a cap bs → Calls Tryd.prog 31 #[bv a bs.length cap N, .int .i64 at_, s.v] W (Ret W (xgV 0 0 Vl.zero e)))) ∨
      (∃ (l : List Bool) (i n : Nat) (v : Nat) (t : Vl), l.length ≤ 800000 ∧ bs = pack l ∧ N = l.length ∧ at_ = i ∧ soundV s = true ∧ v < 18446744073709551616 ∧ i + n ≤ l.length ∧ t.prev = v ∧ (written s v).2 = t ∧ (written s v).1 = (l.drop i).take n ∧ (∀ W, TabW W → SlB W a cap bs → Calls Tryd.prog 31 #[bv a bs.length cap N, .int .i64 at_, s.v] W (Ret W (xgV v (i + n : Nat) t 0)))) := by
    by_cases hn : wrongX (soundB bs N) (soundV s) = 0
    · have hg1 : soundB bs N = true := by
        cases g : soundB bs N
        · rw [g] at hn; simp [wrongX] at hn
        · rfl
      have hg2 : soundV s = true := by
        cases g : soundV s
        · rw [g, hg1] at hn; simp [wrongX] at hn
        · rfl
      obtain ⟨l, rfl, rfl⟩ := sound_list hbs hg1
      have hll : l.length ≤ 800000 := by rw [pack_length] at hlen; unfold nb at hlen; omega
      have hx := fun W h1 h2 => xget_yes l hll a cap at_ hat s hs hg2 W h1 h2
      by_cases he : (getX l at_ s).2.2.2 = 0
      · right
        have hlt := getX_lt (l := l) (at_ := at_) hs
        obtain ⟨⟨v, n, t, e⟩, hg⟩ : ∃ p, getX l at_ s = p := ⟨_, rfl⟩
        rw [hg] at hx he hlt
        simp only at he hlt
        subst he
        obtain ⟨b1, b2, b3, b4, b5⟩ := getX_ok hg
        obtain ⟨i, rfl⟩ : ∃ i : Nat, at_ = i := ⟨at_.toNat, by omega⟩
        obtain ⟨m, rfl⟩ : ∃ m : Nat, n = (i + m : Nat) := ⟨n.toNat - i, by omega⟩
        have hp := (written_sound hg2 hs hlt).2.2.1
        rw [b4] at hp
        refine ⟨l, i, m, v, t, hll, rfl, rfl, rfl, hg2, hlt, by omega, hp, b4, ?_, hx⟩
        rw [b5, Int.toNat_natCast, Int.toNat_natCast]; congr 1; omega
      · left
        rw [getX_zero he] at hx
        exact ⟨_, he, hx⟩
    · left
      exact ⟨_, hn, fun W h1 h2 => xget_no bs hbs hl N hN a cap at_ s hs W h2 hn⟩
  rcases hG with ⟨e, he, hx⟩ | ⟨l, i, n, v, t, hll, rfl, rfl, rfl, hg2, hv, hin, hp, hw2, hw1, hx⟩
  · have HX' : Hid (∀ W, TabW W → SlB W a cap bs → Calls Tryd.prog 31 #[bv a bs.length cap N, .int .i64 at_, s.v] W (Ret W (.tuple #[.int .u64 0, .int .i64 0, .agg #[.bool false, .int .u64 0, .int .u8 0, .int .u8 0], .int .u16 (e : Nat)]))) := hid hx
    have he' : ((e : Int) != 0) = true := by simp; exact he
    clear hx
    obtain ⟨hs1, hs2, hs3⟩ := hs
    go_enter Tryd.func11, Tryd.ntmps11
    go_wp2_with (first | (go_at_call 18; (with_reducible refine (HK.out _ (by repeat (first | with_reducible exact hT | with_reducible refine TabW.over ?_ _ | with_reducible refine TabW.alloc ?_ _ | with_reducible refine TabW.drew ?_ | ((with_reducible refine TabW.setCell ?_ ?_ _); rotate_left; (first | (focus (simp; done)) | (focus (simp; omega)))) | ((with_reducible refine TabW.chg ?_ _ ?_); rotate_left; (first | assumption | (focus (simp; done)) | (focus (simp; omega)))) | exact hT))).mono ?_); rintro _ _ ⟨⟨e1, rfl⟩, rfl⟩) | (go_at_call 31; (with_reducible refine (HX'.out _ (by repeat (first | with_reducible exact hT | with_reducible refine TabW.over ?_ _ | with_reducible refine TabW.alloc ?_ _ | with_reducible refine TabW.drew ?_ | ((with_reducible refine TabW.setCell ?_ ?_ _); rotate_left; (first | (focus (simp; done)) | (focus (simp; omega)))) | ((with_reducible refine TabW.chg ?_ _ ?_); rotate_left; (first | assumption | (focus (simp; done)) | (focus (simp; omega)))) | exact hT)) (by repeat (first | with_reducible exact hb | with_reducible refine Sl.over ?_ _ | with_reducible refine Sl.alloc ?_ _ | with_reducible refine Sl.drew ?_ | exact hb))).mono ?_); rintro _ _ ⟨⟨e2, rfl⟩, rfl⟩))
    go_ret
    exact ⟨(by (try unfold Ov); repeat (first | with_reducible exact ex_over | with_reducible exact over_self _ | with_reducible refine ex_undrew ?_ | with_reducible refine ex_into ?_ _ | with_reducible refine ex_alloc ?_ _ | with_reducible refine ex_drew ?_ | ((with_reducible refine ex_setCell ?_ ?_ _); rotate_left; (first | omega | (focus (simp; done)) | (focus (simp; omega)))) | ((with_reducible refine ex_chg ?_ _ ?_); rotate_left; (first | assumption | (exact Hid.out (by assumption)))) | exact ex_over)), rfl⟩
  · have HP : Hid (∀ W, TabW W → Calls Tryd.prog 21 #[.agg #[.slice none 0 0, .int .i64 0], s.v, .int .u64 (v : Nat)] W (XpPost W ([] ++ (written s v).1) (written s v).2)) := hid (fun W hW => xput_yes [] (by simp) none 0 s hs hg2 v hv W (Sl.nil W) hW)
    have HC := hid (fun W hW => rcut_any l (by omega) i n hin a cap W hW)
    rw [List.nil_append, hw1, hw2] at HP
    obtain ⟨K, hK⟩ : ∃ K, (l.drop i).take n = K := ⟨_, rfl⟩
    rw [hK] at HP HC
    have HS := hid (fun b1 c1 b2 c2 W h1 h2 => rsame_any (pack K) (pack K) pack_lt pack_lt K.length K.length b1 c1 b2 c2 W h1 h2)
    rw [decide_eq_true rfl, decide_eq_true rfl] at HS
    clear hw1 hw2 hK
    obtain ⟨M, hM⟩ : ∃ M, i + n = M := ⟨_, rfl⟩
    rw [hM] at HC hx hin
    clear hM
    obtain ⟨th, tp, tl, tw⟩ := t
    simp only at hp
    subst hp
    have HX' : Hid (∀ W, TabW W → SlB W a cap (pack l) → Calls Tryd.prog 31 #[bv a (pack l).length cap l.length, .int .i64 (i : Nat), s.v] W (Ret W (.tuple #[.int .u64 (tp : Nat), .int .i64 (M : Nat), .agg #[.bool th, .int .u64 (tp : Nat), .int .u8 (tl : Nat), .int .u8 (tw : Nat)], .int .u16 0]))) := hid hx
    clear hx
    obtain ⟨hs1, hs2, hs3⟩ := hs
    go_enter Tryd.func11, Tryd.ntmps11
    go_wp2_with (first | (go_at_call 18; (with_reducible refine (HK.out _ (by repeat (first | with_reducible exact hT | with_reducible refine TabW.over ?_ _ | with_reducible refine TabW.alloc ?_ _ | with_reducible refine TabW.drew ?_ | ((with_reducible refine TabW.setCell ?_ ?_ _); rotate_left; (first | (focus (simp; done)) | (focus (simp; omega)))) | ((with_reducible refine TabW.chg ?_ _ ?_); rotate_left; (first | assumption | (focus (simp; done)) | (focus (simp; omega)))) | exact hT))).mono ?_); rintro _ _ ⟨⟨e1, rfl⟩, rfl⟩) | (go_at_call 31; (with_reducible refine (HX'.out _ (by repeat (first | with_reducible exact hT | with_reducible refine TabW.over ?_ _ | with_reducible refine TabW.alloc ?_ _ | with_reducible refine TabW.drew ?_ | ((with_reducible refine TabW.setCell ?_ ?_ _); rotate_left; (first | (focus (simp; done)) | (focus (simp; omega)))) | ((with_reducible refine TabW.chg ?_ _ ?_); rotate_left; (first | assumption | (focus (simp; done)) | (focus (simp; omega)))) | exact hT)) (by repeat (first | with_reducible exact hb | with_reducible refine Sl.over ?_ _ | with_reducible refine Sl.alloc ?_ _ | with_reducible refine Sl.drew ?_ | exact hb))).mono ?_); rintro _ _ ⟨⟨e2, rfl⟩, rfl⟩) | (go_at_call 21; (with_reducible refine (HP.out _ (by repeat (first | with_reducible exact hT | with_reducible refine TabW.over ?_ _ | with_reducible refine TabW.alloc ?_ _ | with_reducible refine TabW.drew ?_ | ((with_reducible refine TabW.setCell ?_ ?_ _); rotate_left; (first | (focus (simp; done)) | (focus (simp; omega)))) | ((with_reducible refine TabW.chg ?_ _ ?_); rotate_left; (first | assumption | (focus (simp; done)) | (focus (simp; omega)))) | exact hT))).mono ?_); rintro _ _ ⟨a3, c3, rfl, ⟨e3, rfl⟩, s3⟩) | (go_at_call 33; (with_reducible refine (HC.out _ (by repeat (first | with_reducible exact hb | with_reducible refine Sl.over ?_ _ | with_reducible refine Sl.alloc ?_ _ | with_reducible refine Sl.drew ?_ | exact hb))).mono ?_); rintro _ _ ⟨a4, c4, rfl, ⟨e4, rfl⟩, s4⟩) | (go_at_call 23; (with_reducible refine (HS.out _ _ _ _ _ (by repeat (first | with_reducible exact s3 | with_reducible refine Sl.over ?_ _ | with_reducible refine Sl.alloc ?_ _ | with_reducible refine Sl.drew ?_ | exact s3)) (by repeat (first | with_reducible exact s4 | with_reducible refine Sl.over ?_ _ | with_reducible refine Sl.alloc ?_ _ | with_reducible refine Sl.drew ?_ | exact s4))).mono ?_); rintro _ _ ⟨⟨e5, rfl⟩, rfl⟩))
    go_ret
    exact ⟨(by (try unfold Ov); repeat (first | with_reducible exact ex_over | with_reducible exact over_self _ | with_reducible refine ex_undrew ?_ | with_reducible refine ex_into ?_ _ | with_reducible refine ex_alloc ?_ _ | with_reducible refine ex_drew ?_ | ((with_reducible refine ex_setCell ?_ ?_ _); rotate_left; (first | omega | (focus (simp; done)) | (focus (simp; omega)))) | ((with_reducible refine ex_chg ?_ _ ?_); rotate_left; (first | assumption | (exact Hid.out (by assumption)))) | exact ex_over)), rfl⟩
end Go.Proofs.YthljlajdkdgieaaDoor
