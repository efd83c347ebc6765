/- Walks: xor.Get on sound bits. -/
import Derived.Test.YtneeikjiabpjhaaGreatDoorGH
import Derived.Test.YtneeikjiabpjhaaGreatDoorXorI4
import Derived.Test.YtneeikjiabpjhaaGreatDoorGA
namespace Go.Proofs.YtneeikjiabpjhaaGreatDoor
set_option linter.unusedVariables false
set_option linter.unusedSimpArgs false
open Go.RowKit

theorem tk_i {l : List Bool} (hl : l.length ≤ 900000) (a : Option Addr) (cap p : Nat) {at_ : Int} (hat : -9223372036854775808 ≤ at_ ∧ at_ ≤ 9223372036854775807) {W : Nat} (hW : W ≤ 64) {v e : Nat} (h : getN l at_ W = (v, e)) (Wi n : Int) (hi : Wi = W) (hn : n = at_ + W) : TK l a cap p at_ Wi v n e := by
  subst hi hn; exact tk_of hl a cap p hat hW h

theorem xget_yes (l : List Bool) (hl : l.length ≤ 800000) (a : Option Addr) (cap : Nat) (at_ : Int) (hat : -9223372036854775808 ≤ at_ ∧ at_ ≤ 9223372036854775807) (s : Vl) (hs : s.wf) (hsd : soundV s = true) (w : World) (hT : TabW w) (hb : SlB w a cap (pack l)) :
    Calls Tryz.prog 97 #[bv a (pack l).length cap l.length, .int .i64 at_, s.v] w (Ret w (xgV (getX l at_ s).1 (getX l at_ s).2.1 (getX l at_ s).2.2.1 (getX l at_ s).2.2.2)) := by
  have hl9 : l.length ≤ 900000 := by omega
  cases hh : s.has
  · obtain ⟨⟨v, e⟩, hg⟩ : ∃ p, getN l at_ 64 = p := ⟨_, rfl⟩
    rw [getX_new hh, hg]
    have h := xget_new l hl a cap at_ hat s hs hsd hh w hb _ v e hg rfl
    by_cases he : e = 0
    · subst he
      simp only [if_true] at h ⊢
      exact h
    · obtain ⟨rfl, rfl⟩ := getN_e hg he
      simp only [show ¬ (10 : Nat) = 0 by decide, if_false] at h ⊢
      exact h
  obtain ⟨hl1, hl2, _⟩ := soundV_has hsd hh
  obtain ⟨⟨b1, q1⟩, g1⟩ : ∃ p, getN l at_ 1 = p := ⟨_, rfl⟩
  by_cases hq1 : q1 = 0
  rotate_left
  · have g1' := g1
    obtain ⟨rfl, rfl⟩ := getN_e g1 hq1
    rw [getX_A hh (by rw [g1]; decide)]
    exact xget_e l hl a cap at_ hat s hs hsd hh w hb 0 10 g1 s.lead s.width (by omega) false (at_ + 1) 10 (by decide) (fun p W hsl hr => df_1 W p a cap l hsl at_ hr s hs hl1 hl2 (at_ + 1) 10 (tk_i hl9 a cap p hat (by decide) g1 1 (at_ + 1) rfl rfl))
  subst hq1
  obtain ⟨ha0, hp1, _⟩ := getN_place g1
  rcases getN_one g1 with rfl | rfl
  · rw [getX_B hh g1]
    exact xget_same l hl a cap at_ hat s hs hsd hh w hb 0 g1 (at_ + 1) (fun p W hsl hr => df_1 W p a cap l hsl at_ hr s hs hl1 hl2 (at_ + 1) 0 (tk_i hl9 a cap p hat (by decide) g1 1 (at_ + 1) rfl rfl))
  have k1 := fun p => tk_i hl9 a cap p hat (by decide : 1 ≤ 64) g1 1 (at_ + 1) rfl rfl
  obtain ⟨⟨b2, q2⟩, g2⟩ : ∃ p, getN l (at_ + 1) 1 = p := ⟨_, rfl⟩
  have k2 := fun p => tk_i hl9 a cap p (by omega) (by decide : 1 ≤ 64) g2 1 (at_ + 2) rfl (by omega)
  by_cases hq2 : q2 = 0
  rotate_left
  · obtain ⟨rfl, rfl⟩ := getN_e g2 hq2
    rw [getX_C1 hh g1 (by rw [g2]; decide)]
    exact xget_e l hl a cap at_ hat s hs hsd hh w hb 1 0 g1 s.lead s.width (by omega) false (at_ + 2) 10 (by decide) (fun p W hsl hr => df_2e W p a cap l hsl at_ hr s hs hl1 hl2 (at_ + 1) (at_ + 2) 10 (by decide) (k1 p) (k2 p))
  subst hq2
  obtain ⟨_, hp2, _⟩ := getN_place g2
  rcases getN_one g2 with rfl | rfl
  · obtain ⟨⟨d0, q3⟩, g3⟩ : ∃ p, getN l (at_ + 2) s.width = p := ⟨_, rfl⟩
    have k3 := fun p => tk_i hl9 a cap p (by omega) (by omega : s.width ≤ 64) g3 s.width (at_ + 2 + s.width) rfl rfl
    have kd := fun p W hsl hr => df_2 W p a cap l hsl at_ hr s hs hl1 hl2 (at_ + 1) (at_ + 2) (at_ + 2 + s.width) d0 q3 (k1 p) (k2 p) (k3 p)
    by_cases hq3 : q3 = 0
    rotate_left
    · obtain ⟨rfl, rfl⟩ := getN_e g3 hq3
      rw [getX_C2a hh g1 g2 (by rw [g3]; decide)]
      have e0 : 0 <<< (64 - s.lead - s.width) % 18446744073709551616 = 0 := by simp
      rw [e0] at kd
      exact xget_e l hl a cap at_ hat s hs hsd hh w hb 1 0 g1 s.lead s.width (by omega) false _ 10 (by decide) kd
    · subst hq3
      rw [getX_C2b hsd hh g1 g2 g3]
      have hd := shl_lt64 d0 (64 - s.lead - s.width)
      generalize d0 <<< (64 - s.lead - s.width) % 18446744073709551616 = d at *
      by_cases h0 : d = 0
      · subst h0
        rw [if_pos rfl]
        exact xget_in0 l hl a cap at_ hat s hs hsd hh w hb 0 g1 _ kd
      · rw [if_neg h0]
        exact xget_in l hl a cap at_ hat s hs hsd hh w hb 0 g1 _ d hd h0 kd
  obtain ⟨⟨L, q3⟩, g3⟩ : ∃ p, getN l (at_ + 2) 5 = p := ⟨_, rfl⟩
  have k3 := fun p => tk_i hl9 a cap p (by omega) (by decide : 5 ≤ 64) g3 5 (at_ + 7) rfl (by omega)
  by_cases hq3 : q3 = 0
  rotate_left
  · obtain ⟨rfl, rfl⟩ := getN_e g3 hq3
    rw [getX_C3a hh g1 g2 (by rw [g3]; decide)]
    exact xget_e l hl a cap at_ hat s hs hsd hh w hb 1 0 g1 0 1 (by omega) true _ 10 (by decide) (fun p W hsl hr => df_3e W p a cap l hsl at_ hr s hs (at_ + 1) (at_ + 2) (at_ + 7) 10 (by decide) (k1 p) (k2 p) (k3 p))
  subst hq3
  obtain ⟨_, hp3, hL⟩ := getN_place g3
  obtain ⟨⟨S, q4⟩, g4⟩ : ∃ p, getN l (at_ + 7) 6 = p := ⟨_, rfl⟩
  have k4 := fun p => tk_i hl9 a cap p (by omega) (by decide : 6 ≤ 64) g4 6 (at_ + 13) rfl (by omega)
  by_cases hq4 : q4 = 0
  rotate_left
  · obtain ⟨rfl, rfl⟩ := getN_e g4 hq4
    rw [getX_C3b hh g1 g2 (by rw [g3]) (by rw [g4]; decide)]
    exact xget_e l hl a cap at_ hat s hs hsd hh w hb 1 0 g1 L 1 (by omega) true _ 10 (by decide) (fun p W hsl hr => df_3f W p a cap l hsl at_ hr s hs (at_ + 1) (at_ + 2) (at_ + 7) (at_ + 13) L hL 10 (by decide) (k1 p) (k2 p) (k3 p) (k4 p))
  subst hq4
  obtain ⟨_, hp4, hS⟩ := getN_place g4
  by_cases h64 : 64 < L + (S + 1)
  · rw [getX_C3c hh g1 g2 g3 g4 h64]
    exact xget_e l hl a cap at_ hat s hs hsd hh w hb 1 0 g1 L (S + 1) (by omega) true _ 30 (by decide) (fun p W hsl hr => df_3g W p a cap l hsl at_ hr s hs (at_ + 1) (at_ + 2) (at_ + 7) (at_ + 13) L S hL hS h64 (k1 p) (k2 p) (k3 p) (k4 p))
  obtain ⟨⟨d0, q5⟩, g5⟩ : ∃ p, getN l (at_ + 13) (S + 1) = p := ⟨_, rfl⟩
  have k5 := fun p => tk_i hl9 a cap p (by omega) (by omega : S + 1 ≤ 64) g5 ((S : Int) + 1) (at_ + 13 + (S + 1 : Nat)) (by omega) rfl
  have kd := fun p W hsl hr => df_3h W p a cap l hsl at_ hr s hs (at_ + 1) (at_ + 2) (at_ + 7) (at_ + 13) (at_ + 13 + (S + 1 : Nat)) L S d0 q5 hL hS h64 (k1 p) (k2 p) (k3 p) (k4 p) (k5 p)
  by_cases hq5 : q5 = 0
  rotate_left
  · obtain ⟨rfl, rfl⟩ := getN_e g5 hq5
    rw [getX_C3d hh g1 g2 g3 g4 h64 (by rw [g5]; decide)]
    have e0 : 0 <<< (64 - L - (S + 1)) % 18446744073709551616 = 0 := by simp
    rw [e0] at kd
    exact xget_e l hl a cap at_ hat s hs hsd hh w hb 1 0 g1 L (S + 1) (by omega) true _ 10 (by decide) kd
  · subst hq5
    rw [getX_C3e hh g1 g2 g3 g4 h64 g5]
    have hd := shl_lt64 d0 (64 - L - (S + 1))
    generalize d0 <<< (64 - L - (S + 1)) % 18446744073709551616 = d at *
    by_cases h0 : d = 0
    · subst h0
      rw [if_pos (.inl rfl)]
      exact xget_new0 l hl a cap at_ hat s hs hsd hh w hT hb 0 g1 _ L (S + 1) (by omega) kd
    · cases hib : inBand s.lead s.width d
      · by_cases hcl : L = aLead d
        · by_cases hcs : S + 1 = aSize d
          · rw [if_neg (by rintro (h | h | h); exact h0 h; cases h; exact h ⟨hcl, hcs⟩)]
            exact xget_newd l hl a cap at_ hat s hs hsd hh w hT hb 0 g1 _ d L (S + 1) hd h0 (by omega) kd hib ⟨hcl, hcs⟩
          · rw [if_pos (.inr (.inr fun h => hcs h.2))]
            exact xget_newc2 l hl a cap at_ hat s hs hsd hh w hT hb 0 g1 _ d L (S + 1) hd h0 (by omega) kd hib hcl hcs
        · rw [if_pos (.inr (.inr fun h => hcl h.1))]
          exact xget_newc1 l hl a cap at_ hat s hs hsd hh w hT hb 0 g1 _ d L (S + 1) hd h0 (by omega) kd hib hcl
      · rw [if_pos (.inr (.inl rfl))]
        exact xget_newb l hl a cap at_ hat s hs hsd hh w hT hb 0 g1 _ d L (S + 1) hd h0 (by omega) kd hib
end Go.Proofs.YtneeikjiabpjhaaGreatDoor
