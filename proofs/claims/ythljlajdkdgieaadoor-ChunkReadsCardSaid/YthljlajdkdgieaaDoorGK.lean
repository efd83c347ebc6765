/- Texts merged: RefV, RxG, RzG. -/
import Derived.Test.YthljlajdkdgieaaDoorGN
import Derived.Test.YthljlajdkdgieaaDoorRxP
import Derived.Test.YthljlajdkdgieaaDoorGB
import Derived.Test.YthljlajdkdgieaaDoorGA
import Derived.Test.YthljlajdkdgieaaDoorGE
namespace Go.Proofs.YthljlajdkdgieaaDoor
set_option linter.unusedVariables false
set_option linter.unusedSimpArgs false
open Go.RowKit

abbrev xvV (p : Nat × Nat × Nat) : Value := .tuple #[.int .u64 (p.1 : Nat), .int .i64 (p.2.1 : Nat), .int .i64 (p.2.2 : Nat)]
/-- Reading that many bits at that place gives that. -/
abbrev RG (l : List Bool) (a : Option Addr) (cap : Nat) (at_ W v e : Int) : Prop := ∀ w, SlB w a cap (pack l) → Calls Tryd.prog 65 #[bv a (pack l).length cap l.length, .int .i64 at_, .int .i64 W] w (Ret w (.tuple #[.int .u64 v, .int .i64 e]))
theorem rg_of {l : List Bool} (hl : l.length ≤ 900000) (a : Option Addr) (cap : Nat) {at_ : Int} (hat : -9223372036854775808 ≤ at_ ∧ at_ ≤ 9223372036854775807) {W : Nat} (hW : W ≤ 64) {v e : Nat} (h : getN l at_ W = (v, e)) : RG l a cap at_ W v e := fun w hw => by
  have := rget_any l hl at_ hat W hW a cap w hw
  rw [h] at this; exact this

theorem rg_i {l : List Bool} (hl : l.length ≤ 900000) (a : Option Addr) (cap : Nat) {at_ : Int} (hat : -9223372036854775808 ≤ at_ ∧ at_ ≤ 9223372036854775807) {W : Nat} (hW : W ≤ 64) {v e : Nat} (h : getN l at_ W = (v, e)) (Wi : Int) (hi : Wi = W) : RG l a cap at_ Wi v e := by
  subst hi; exact rg_of hl a cap hat hW h
set_option maxRecDepth 100000 in
set_option maxHeartbeats 4000000 in
theorem rval_any (l : List Bool) (hl : l.length ≤ 900000) (at_ : Int) (hat : 0 ≤ at_ ∧ at_ ≤ l.length) (s : Vl) (hs : s.wf) (hsd : soundV s = true) (a : Option Addr) (cap : Nat) (w : World) (hb : SlB w a cap (pack l)) :
    Calls Tryd.prog 62 #[bv a (pack l).length cap l.length, .int .i64 at_, s.v] w (Ret w (xvV (valueX l at_ s))) := by
  obtain ⟨hat1, hat2⟩ := hat
  have hsd := soundV_has hsd
  obtain ⟨has, prev, lead, width⟩ := s
  obtain ⟨hs1, hs2, hs3⟩ := hs
  simp only at hs1 hs2 hs3 hsd
  cases has
  · clear hsd
    obtain ⟨⟨v, e⟩, g1⟩ : ∃ p, getN l at_ 64 = p := ⟨_, rfl⟩
    have G1 := hid (rg_i hl a cap (by omega) (Nat.le_refl 64) g1 64 rfl)
    have HV := hid (show valueX l at_ ⟨false, prev, lead, width⟩ = (v, 64, e) by unfold valueX; simp [g1])
    have hv : v < 18446744073709551616 := by have := getN_lt l at_ 64; rw [g1] at this; exact this
    have he : e ≤ 10 := by rcases getN_err l at_ 64 with h | h <;> rw [g1] at h <;> simp at h <;> omega
    clear g1
    go_enter Tryd.func62, Tryd.ntmps62
    go_wp2_with (first | (go_at_call 65; (with_reducible refine (G1.out _ (by repeat (first | with_reducible exact hb | with_reducible refine Sl.over ?_ _ | with_reducible refine Sl.alloc ?_ _ | with_reducible refine Sl.drew ?_ | exact hb))).mono ?_); rintro _ _ ⟨⟨e1, rfl⟩, rfl⟩) | (go_at_call 65; (with_reducible refine (G2.out _ (by repeat (first | with_reducible exact hb | with_reducible refine Sl.over ?_ _ | with_reducible refine Sl.alloc ?_ _ | with_reducible refine Sl.drew ?_ | exact hb))).mono ?_); rintro _ _ ⟨⟨e2, rfl⟩, rfl⟩) | (go_at_call 65; (with_reducible refine (G3.out _ (by repeat (first | with_reducible exact hb | with_reducible refine Sl.over ?_ _ | with_reducible refine Sl.alloc ?_ _ | with_reducible refine Sl.drew ?_ | exact hb))).mono ?_); rintro _ _ ⟨⟨e3, rfl⟩, rfl⟩) | (go_at_call 65; (with_reducible refine (G4.out _ (by repeat (first | with_reducible exact hb | with_reducible refine Sl.over ?_ _ | with_reducible refine Sl.alloc ?_ _ | with_reducible refine Sl.drew ?_ | exact hb))).mono ?_); rintro _ _ ⟨⟨e4, rfl⟩, rfl⟩) | (go_at_call 65; (with_reducible refine (G5.out _ (by repeat (first | with_reducible exact hb | with_reducible refine Sl.over ?_ _ | with_reducible refine Sl.alloc ?_ _ | with_reducible refine Sl.drew ?_ | exact hb))).mono ?_); rintro _ _ ⟨⟨e5, rfl⟩, rfl⟩))
    (try simp only [Exit.inBlock, Exit.then])
    refine bodyPost_ret (v := ?rv84) ?rh84 rfl ?rp84
    case rh84 => (simp only [results, show Tryd.f62.results = #[.tmp 6, .tmp 7, .tmp 8] from rfl]; go_simp; rfl)
    refine ⟨(by (try unfold Ov); repeat (first | with_reducible exact ex_over | with_reducible exact over_self _ | with_reducible refine ex_undrew ?_ | with_reducible refine ex_into ?_ _ | with_reducible refine ex_alloc ?_ _ | with_reducible refine ex_drew ?_ | ((with_reducible refine ex_setCell ?_ ?_ _); rotate_left; (first | omega | (focus (simp; done)) | (focus (simp; omega)))) | ((with_reducible refine ex_chg ?_ _ ?_); rotate_left; (first | assumption | (exact Hid.out (by assumption)))) | exact ex_over)), ?_⟩
    rw [HV.out]; rfl
  · obtain ⟨hsd1, hsd2, _⟩ := hsd rfl
    clear hsd
    obtain ⟨⟨b1, e1⟩, g1⟩ : ∃ p, getN l at_ 1 = p := ⟨_, rfl⟩
    have e1c := getN_err l at_ 1
    rw [g1] at e1c
    simp only at e1c
    rcases e1c with rfl | rfl
    rotate_left
    · obtain ⟨rfl, _⟩ := getN_e g1 (by decide)
      have G1 := hid (rg_i hl a cap (by omega) (by decide : 1 ≤ 64) g1 1 rfl)
      have HV := hid (show valueX l at_ ⟨true, prev, lead, width⟩ = (prev, 1, 10) by unfold valueX; simp [g1])
      clear g1
      go_enter Tryd.func62, Tryd.ntmps62
      go_wp2_with (first | (go_at_call 65; (with_reducible refine (G1.out _ (by repeat (first | with_reducible exact hb | with_reducible refine Sl.over ?_ _ | with_reducible refine Sl.alloc ?_ _ | with_reducible refine Sl.drew ?_ | exact hb))).mono ?_); rintro _ _ ⟨⟨e1, rfl⟩, rfl⟩) | (go_at_call 65; (with_reducible refine (G2.out _ (by repeat (first | with_reducible exact hb | with_reducible refine Sl.over ?_ _ | with_reducible refine Sl.alloc ?_ _ | with_reducible refine Sl.drew ?_ | exact hb))).mono ?_); rintro _ _ ⟨⟨e2, rfl⟩, rfl⟩) | (go_at_call 65; (with_reducible refine (G3.out _ (by repeat (first | with_reducible exact hb | with_reducible refine Sl.over ?_ _ | with_reducible refine Sl.alloc ?_ _ | with_reducible refine Sl.drew ?_ | exact hb))).mono ?_); rintro _ _ ⟨⟨e3, rfl⟩, rfl⟩) | (go_at_call 65; (with_reducible refine (G4.out _ (by repeat (first | with_reducible exact hb | with_reducible refine Sl.over ?_ _ | with_reducible refine Sl.alloc ?_ _ | with_reducible refine Sl.drew ?_ | exact hb))).mono ?_); rintro _ _ ⟨⟨e4, rfl⟩, rfl⟩) | (go_at_call 65; (with_reducible refine (G5.out _ (by repeat (first | with_reducible exact hb | with_reducible refine Sl.over ?_ _ | with_reducible refine Sl.alloc ?_ _ | with_reducible refine Sl.drew ?_ | exact hb))).mono ?_); rintro _ _ ⟨⟨e5, rfl⟩, rfl⟩))
      (try simp only [Exit.inBlock, Exit.then])
      refine bodyPost_ret (v := ?rv85) ?rh85 rfl ?rp85
      case rh85 => (simp only [results, show Tryd.f62.results = #[.tmp 6, .tmp 7, .tmp 8] from rfl]; go_simp; rfl)
      refine ⟨(by (try unfold Ov); repeat (first | with_reducible exact ex_over | with_reducible exact over_self _ | with_reducible refine ex_undrew ?_ | with_reducible refine ex_into ?_ _ | with_reducible refine ex_alloc ?_ _ | with_reducible refine ex_drew ?_ | ((with_reducible refine ex_setCell ?_ ?_ _); rotate_left; (first | omega | (focus (simp; done)) | (focus (simp; omega)))) | ((with_reducible refine ex_chg ?_ _ ?_); rotate_left; (first | assumption | (exact Hid.out (by assumption)))) | exact ex_over)), ?_⟩
      rw [HV.out]; rfl
    rcases getN_one g1 with rfl | rfl
    · have G1 := hid (rg_i hl a cap (by omega) (by decide : 1 ≤ 64) g1 1 rfl)
      have HV := hid (show valueX l at_ ⟨true, prev, lead, width⟩ = (prev, 1, 0) by unfold valueX; simp [g1])
      clear g1
      go_enter Tryd.func62, Tryd.ntmps62
      go_wp2_with (first | (go_at_call 65; (with_reducible refine (G1.out _ (by repeat (first | with_reducible exact hb | with_reducible refine Sl.over ?_ _ | with_reducible refine Sl.alloc ?_ _ | with_reducible refine Sl.drew ?_ | exact hb))).mono ?_); rintro _ _ ⟨⟨e1, rfl⟩, rfl⟩) | (go_at_call 65; (with_reducible refine (G2.out _ (by repeat (first | with_reducible exact hb | with_reducible refine Sl.over ?_ _ | with_reducible refine Sl.alloc ?_ _ | with_reducible refine Sl.drew ?_ | exact hb))).mono ?_); rintro _ _ ⟨⟨e2, rfl⟩, rfl⟩) | (go_at_call 65; (with_reducible refine (G3.out _ (by repeat (first | with_reducible exact hb | with_reducible refine Sl.over ?_ _ | with_reducible refine Sl.alloc ?_ _ | with_reducible refine Sl.drew ?_ | exact hb))).mono ?_); rintro _ _ ⟨⟨e3, rfl⟩, rfl⟩) | (go_at_call 65; (with_reducible refine (G4.out _ (by repeat (first | with_reducible exact hb | with_reducible refine Sl.over ?_ _ | with_reducible refine Sl.alloc ?_ _ | with_reducible refine Sl.drew ?_ | exact hb))).mono ?_); rintro _ _ ⟨⟨e4, rfl⟩, rfl⟩) | (go_at_call 65; (with_reducible refine (G5.out _ (by repeat (first | with_reducible exact hb | with_reducible refine Sl.over ?_ _ | with_reducible refine Sl.alloc ?_ _ | with_reducible refine Sl.drew ?_ | exact hb))).mono ?_); rintro _ _ ⟨⟨e5, rfl⟩, rfl⟩))
      (try simp only [Exit.inBlock, Exit.then])
      refine bodyPost_ret (v := ?rv86) ?rh86 rfl ?rp86
      case rh86 => (simp only [results, show Tryd.f62.results = #[.tmp 6, .tmp 7, .tmp 8] from rfl]; go_simp; rfl)
      refine ⟨(by (try unfold Ov); repeat (first | with_reducible exact ex_over | with_reducible exact over_self _ | with_reducible refine ex_undrew ?_ | with_reducible refine ex_into ?_ _ | with_reducible refine ex_alloc ?_ _ | with_reducible refine ex_drew ?_ | ((with_reducible refine ex_setCell ?_ ?_ _); rotate_left; (first | omega | (focus (simp; done)) | (focus (simp; omega)))) | ((with_reducible refine ex_chg ?_ _ ?_); rotate_left; (first | assumption | (exact Hid.out (by assumption)))) | exact ex_over)), ?_⟩
      rw [HV.out]; rfl
    have G1 := hid (rg_i hl a cap (by omega) (by decide : 1 ≤ 64) g1 1 rfl)
    obtain ⟨_, hp1, _⟩ := getN_place g1
    obtain ⟨⟨b2, e2⟩, g2⟩ : ∃ p, getN l (at_ + 1) 1 = p := ⟨_, rfl⟩
    have e2c := getN_err l (at_ + 1) 1
    rw [g2] at e2c
    simp only at e2c
    rcases e2c with rfl | rfl
    rotate_left
    · obtain ⟨rfl, _⟩ := getN_e g2 (by decide)
      have G2 := hid (rg_i hl a cap (by omega) (by decide : 1 ≤ 64) g2 1 rfl)
      have HV := hid (show valueX l at_ ⟨true, prev, lead, width⟩ = (0, 0, 10) by unfold valueX; simp [g1, g2])
      clear g1 g2
      go_enter Tryd.func62, Tryd.ntmps62
      go_wp2_with (first | (go_at_call 65; (with_reducible refine (G1.out _ (by repeat (first | with_reducible exact hb | with_reducible refine Sl.over ?_ _ | with_reducible refine Sl.alloc ?_ _ | with_reducible refine Sl.drew ?_ | exact hb))).mono ?_); rintro _ _ ⟨⟨e1, rfl⟩, rfl⟩) | (go_at_call 65; (with_reducible refine (G2.out _ (by repeat (first | with_reducible exact hb | with_reducible refine Sl.over ?_ _ | with_reducible refine Sl.alloc ?_ _ | with_reducible refine Sl.drew ?_ | exact hb))).mono ?_); rintro _ _ ⟨⟨e2, rfl⟩, rfl⟩) | (go_at_call 65; (with_reducible refine (G3.out _ (by repeat (first | with_reducible exact hb | with_reducible refine Sl.over ?_ _ | with_reducible refine Sl.alloc ?_ _ | with_reducible refine Sl.drew ?_ | exact hb))).mono ?_); rintro _ _ ⟨⟨e3, rfl⟩, rfl⟩) | (go_at_call 65; (with_reducible refine (G4.out _ (by repeat (first | with_reducible exact hb | with_reducible refine Sl.over ?_ _ | with_reducible refine Sl.alloc ?_ _ | with_reducible refine Sl.drew ?_ | exact hb))).mono ?_); rintro _ _ ⟨⟨e4, rfl⟩, rfl⟩) | (go_at_call 65; (with_reducible refine (G5.out _ (by repeat (first | with_reducible exact hb | with_reducible refine Sl.over ?_ _ | with_reducible refine Sl.alloc ?_ _ | with_reducible refine Sl.drew ?_ | exact hb))).mono ?_); rintro _ _ ⟨⟨e5, rfl⟩, rfl⟩))
      (try simp only [Exit.inBlock, Exit.then])
      refine bodyPost_ret (v := ?rv87) ?rh87 rfl ?rp87
      case rh87 => (simp only [results, show Tryd.f62.results = #[.tmp 6, .tmp 7, .tmp 8] from rfl]; go_simp; rfl)
      refine ⟨(by (try unfold Ov); repeat (first | with_reducible exact ex_over | with_reducible exact over_self _ | with_reducible refine ex_undrew ?_ | with_reducible refine ex_into ?_ _ | with_reducible refine ex_alloc ?_ _ | with_reducible refine ex_drew ?_ | ((with_reducible refine ex_setCell ?_ ?_ _); rotate_left; (first | omega | (focus (simp; done)) | (focus (simp; omega)))) | ((with_reducible refine ex_chg ?_ _ ?_); rotate_left; (first | assumption | (exact Hid.out (by assumption)))) | exact ex_over)), ?_⟩
      rw [HV.out]; rfl
    have G2 := hid (rg_i hl a cap (by omega) (by decide : 1 ≤ 64) g2 1 rfl)
    obtain ⟨_, hp2, _⟩ := getN_place g2
    rcases getN_one g2 with rfl | rfl
    · obtain ⟨⟨d0, e3⟩, g3⟩ : ∃ p, getN l (at_ + 2) width = p := ⟨_, rfl⟩
      have e3c := getN_err l (at_ + 2) width
      rw [g3] at e3c
      simp only at e3c
      have G3 := hid (rg_i hl a cap (by omega) (by omega : width ≤ 64) g3 width rfl)
      rcases e3c with rfl | rfl
      rotate_left
      · obtain ⟨rfl, _⟩ := getN_e g3 (by decide)
        have HV := hid (show valueX l at_ ⟨true, prev, lead, width⟩ = (0, 0, 10) by unfold valueX; simp [g1, g2, g3])
        clear g1 g2 g3
        go_enter Tryd.func62, Tryd.ntmps62
        go_wp2_with (first | (go_at_call 65; (with_reducible refine (G1.out _ (by repeat (first | with_reducible exact hb | with_reducible refine Sl.over ?_ _ | with_reducible refine Sl.alloc ?_ _ | with_reducible refine Sl.drew ?_ | exact hb))).mono ?_); rintro _ _ ⟨⟨e1, rfl⟩, rfl⟩) | (go_at_call 65; (with_reducible refine (G2.out _ (by repeat (first | with_reducible exact hb | with_reducible refine Sl.over ?_ _ | with_reducible refine Sl.alloc ?_ _ | with_reducible refine Sl.drew ?_ | exact hb))).mono ?_); rintro _ _ ⟨⟨e2, rfl⟩, rfl⟩) | (go_at_call 65; (with_reducible refine (G3.out _ (by repeat (first | with_reducible exact hb | with_reducible refine Sl.over ?_ _ | with_reducible refine Sl.alloc ?_ _ | with_reducible refine Sl.drew ?_ | exact hb))).mono ?_); rintro _ _ ⟨⟨e3, rfl⟩, rfl⟩) | (go_at_call 65; (with_reducible refine (G4.out _ (by repeat (first | with_reducible exact hb | with_reducible refine Sl.over ?_ _ | with_reducible refine Sl.alloc ?_ _ | with_reducible refine Sl.drew ?_ | exact hb))).mono ?_); rintro _ _ ⟨⟨e4, rfl⟩, rfl⟩) | (go_at_call 65; (with_reducible refine (G5.out _ (by repeat (first | with_reducible exact hb | with_reducible refine Sl.over ?_ _ | with_reducible refine Sl.alloc ?_ _ | with_reducible refine Sl.drew ?_ | exact hb))).mono ?_); rintro _ _ ⟨⟨e5, rfl⟩, rfl⟩))
        (try simp only [Exit.inBlock, Exit.then])
        refine bodyPost_ret (v := ?rv88) ?rh88 rfl ?rp88
        case rh88 => (simp only [results, show Tryd.f62.results = #[.tmp 6, .tmp 7, .tmp 8] from rfl]; go_simp; rfl)
        refine ⟨(by (try unfold Ov); repeat (first | with_reducible exact ex_over | with_reducible exact over_self _ | with_reducible refine ex_undrew ?_ | with_reducible refine ex_into ?_ _ | with_reducible refine ex_alloc ?_ _ | with_reducible refine ex_drew ?_ | ((with_reducible refine ex_setCell ?_ ?_ _); rotate_left; (first | omega | (focus (simp; done)) | (focus (simp; omega)))) | ((with_reducible refine ex_chg ?_ _ ?_); rotate_left; (first | assumption | (exact Hid.out (by assumption)))) | exact ex_over)), ?_⟩
        rw [HV.out]; rfl
      · have HV := hid (show valueX l at_ ⟨true, prev, lead, width⟩ = (prev ^^^ (d0 <<< (64 - lead - width) % 18446744073709551616), 2 + width, 0) by unfold valueX; simp [g1, g2, g3])
        obtain ⟨_, _, hd0⟩ := getN_place g3
        clear g1 g2 g3
        have hw64 : width ≤ 64 := by omega
        have hd0' : d0 < 18446744073709551616 := Nat.lt_of_lt_of_le hd0 (by rw [show 18446744073709551616 = 2 ^ 64 from rfl]; exact Nat.pow_le_pow_right (by omega) hw64)
        have hsx := shx d0 (64 - lead - width)
        have hlx := shl_lt64 d0 (64 - lead - width)
        generalize d0 <<< (64 - lead - width) % 18446744073709551616 = d at *
        have hX := xor64 prev d hs1 hlx
        have hXl : prev ^^^ d < 18446744073709551616 := Nat.xor_lt_two_pow (n := 64) hs1 hlx
        clear hd0
        go_enter Tryd.func62, Tryd.ntmps62
        go_wp2_with (first | (go_at_call 65; (with_reducible refine (G1.out _ (by repeat (first | with_reducible exact hb | with_reducible refine Sl.over ?_ _ | with_reducible refine Sl.alloc ?_ _ | with_reducible refine Sl.drew ?_ | exact hb))).mono ?_); rintro _ _ ⟨⟨e1, rfl⟩, rfl⟩) | (go_at_call 65; (with_reducible refine (G2.out _ (by repeat (first | with_reducible exact hb | with_reducible refine Sl.over ?_ _ | with_reducible refine Sl.alloc ?_ _ | with_reducible refine Sl.drew ?_ | exact hb))).mono ?_); rintro _ _ ⟨⟨e2, rfl⟩, rfl⟩) | (go_at_call 65; (with_reducible refine (G3.out _ (by repeat (first | with_reducible exact hb | with_reducible refine Sl.over ?_ _ | with_reducible refine Sl.alloc ?_ _ | with_reducible refine Sl.drew ?_ | exact hb))).mono ?_); rintro _ _ ⟨⟨e3, rfl⟩, rfl⟩) | (go_at_call 65; (with_reducible refine (G4.out _ (by repeat (first | with_reducible exact hb | with_reducible refine Sl.over ?_ _ | with_reducible refine Sl.alloc ?_ _ | with_reducible refine Sl.drew ?_ | exact hb))).mono ?_); rintro _ _ ⟨⟨e4, rfl⟩, rfl⟩) | (go_at_call 65; (with_reducible refine (G5.out _ (by repeat (first | with_reducible exact hb | with_reducible refine Sl.over ?_ _ | with_reducible refine Sl.alloc ?_ _ | with_reducible refine Sl.drew ?_ | exact hb))).mono ?_); rintro _ _ ⟨⟨e5, rfl⟩, rfl⟩))
        refine M2.wp_region_mix [] 21 (by kernel_rfl) (by kernel_rfl) (by decide) ?_
        simp only [List.take_succ_cons, List.take_zero, List.drop_succ_cons, List.drop_zero]
        with_reducible refine M2.mixL_quiet 21 (by kernel_rfl) ?_
        simp only [List.take_succ_cons, List.take_zero, List.drop_succ_cons, List.drop_zero]
        repeat (go_big_quiet_step (fail))
        with_reducible refine wpQuiet_nil ?_
        with_reducible refine M2.mixL_nil ?_
        with_reducible refine M2.mixL_nil ?_
        go_wp2
        (try simp only [Exit.inBlock, Exit.then])
        refine bodyPost_ret (v := ?rv89) ?rh89 rfl ?rp89
        case rh89 => (simp only [results, show Tryd.f62.results = #[.tmp 6, .tmp 7, .tmp 8] from rfl]; go_simp; rfl)
        refine ⟨(by (try unfold Ov); repeat (first | with_reducible exact ex_over | with_reducible exact over_self _ | with_reducible refine ex_undrew ?_ | with_reducible refine ex_into ?_ _ | with_reducible refine ex_alloc ?_ _ | with_reducible refine ex_drew ?_ | ((with_reducible refine ex_setCell ?_ ?_ _); rotate_left; (first | omega | (focus (simp; done)) | (focus (simp; omega)))) | ((with_reducible refine ex_chg ?_ _ ?_); rotate_left; (first | assumption | (exact Hid.out (by assumption)))) | exact ex_over)), ?_⟩
        rw [HV.out]; rfl
    obtain ⟨⟨L, e3⟩, g3⟩ : ∃ p, getN l (at_ + 2) 5 = p := ⟨_, rfl⟩
    have e3c := getN_err l (at_ + 2) 5
    rw [g3] at e3c
    simp only at e3c
    have G3 := hid (rg_i hl a cap (by omega) (by decide : 5 ≤ 64) g3 5 rfl)
    rcases e3c with rfl | rfl
    rotate_left
    · obtain ⟨rfl, _⟩ := getN_e g3 (by decide)
      have HV := hid (show valueX l at_ ⟨true, prev, lead, width⟩ = (0, 0, 10) by unfold valueX; simp [g1, g2, g3])
      clear g1 g2 g3
      go_enter Tryd.func62, Tryd.ntmps62
      go_wp2_with (first | (go_at_call 65; (with_reducible refine (G1.out _ (by repeat (first | with_reducible exact hb | with_reducible refine Sl.over ?_ _ | with_reducible refine Sl.alloc ?_ _ | with_reducible refine Sl.drew ?_ | exact hb))).mono ?_); rintro _ _ ⟨⟨e1, rfl⟩, rfl⟩) | (go_at_call 65; (with_reducible refine (G2.out _ (by repeat (first | with_reducible exact hb | with_reducible refine Sl.over ?_ _ | with_reducible refine Sl.alloc ?_ _ | with_reducible refine Sl.drew ?_ | exact hb))).mono ?_); rintro _ _ ⟨⟨e2, rfl⟩, rfl⟩) | (go_at_call 65; (with_reducible refine (G3.out _ (by repeat (first | with_reducible exact hb | with_reducible refine Sl.over ?_ _ | with_reducible refine Sl.alloc ?_ _ | with_reducible refine Sl.drew ?_ | exact hb))).mono ?_); rintro _ _ ⟨⟨e3, rfl⟩, rfl⟩) | (go_at_call 65; (with_reducible refine (G4.out _ (by repeat (first | with_reducible exact hb | with_reducible refine Sl.over ?_ _ | with_reducible refine Sl.alloc ?_ _ | with_reducible refine Sl.drew ?_ | exact hb))).mono ?_); rintro _ _ ⟨⟨e4, rfl⟩, rfl⟩) | (go_at_call 65; (with_reducible refine (G5.out _ (by repeat (first | with_reducible exact hb | with_reducible refine Sl.over ?_ _ | with_reducible refine Sl.alloc ?_ _ | with_reducible refine Sl.drew ?_ | exact hb))).mono ?_); rintro _ _ ⟨⟨e5, rfl⟩, rfl⟩))
      (try simp only [Exit.inBlock, Exit.then])
      refine bodyPost_ret (v := ?rv90) ?rh90 rfl ?rp90
      case rh90 => (simp only [results, show Tryd.f62.results = #[.tmp 6, .tmp 7, .tmp 8] from rfl]; go_simp; rfl)
      refine ⟨(by (try unfold Ov); repeat (first | with_reducible exact ex_over | with_reducible exact over_self _ | with_reducible refine ex_undrew ?_ | with_reducible refine ex_into ?_ _ | with_reducible refine ex_alloc ?_ _ | with_reducible refine ex_drew ?_ | ((with_reducible refine ex_setCell ?_ ?_ _); rotate_left; (first | omega | (focus (simp; done)) | (focus (simp; omega)))) | ((with_reducible refine ex_chg ?_ _ ?_); rotate_left; (first | assumption | (exact Hid.out (by assumption)))) | exact ex_over)), ?_⟩
      rw [HV.out]; rfl
    obtain ⟨_, hp3, hL⟩ := getN_place g3
    obtain ⟨⟨S, e4⟩, g4⟩ : ∃ p, getN l (at_ + 7) 6 = p := ⟨_, rfl⟩
    have e4c := getN_err l (at_ + 7) 6
    rw [g4] at e4c
    simp only at e4c
    have G4 := hid (rg_i hl a cap (by omega) (by decide : 6 ≤ 64) g4 6 rfl)
    rcases e4c with rfl | rfl
    rotate_left
    · obtain ⟨rfl, _⟩ := getN_e g4 (by decide)
      have HV := hid (show valueX l at_ ⟨true, prev, lead, width⟩ = (0, 0, 10) by unfold valueX; simp [g1, g2, g3, g4])
      clear g1 g2 g3 g4
      go_enter Tryd.func62, Tryd.ntmps62
      go_wp2_with (first | (go_at_call 65; (with_reducible refine (G1.out _ (by repeat (first | with_reducible exact hb | with_reducible refine Sl.over ?_ _ | with_reducible refine Sl.alloc ?_ _ | with_reducible refine Sl.drew ?_ | exact hb))).mono ?_); rintro _ _ ⟨⟨e1, rfl⟩, rfl⟩) | (go_at_call 65; (with_reducible refine (G2.out _ (by repeat (first | with_reducible exact hb | with_reducible refine Sl.over ?_ _ | with_reducible refine Sl.alloc ?_ _ | with_reducible refine Sl.drew ?_ | exact hb))).mono ?_); rintro _ _ ⟨⟨e2, rfl⟩, rfl⟩) | (go_at_call 65; (with_reducible refine (G3.out _ (by repeat (first | with_reducible exact hb | with_reducible refine Sl.over ?_ _ | with_reducible refine Sl.alloc ?_ _ | with_reducible refine Sl.drew ?_ | exact hb))).mono ?_); rintro _ _ ⟨⟨e3, rfl⟩, rfl⟩) | (go_at_call 65; (with_reducible refine (G4.out _ (by repeat (first | with_reducible exact hb | with_reducible refine Sl.over ?_ _ | with_reducible refine Sl.alloc ?_ _ | with_reducible refine Sl.drew ?_ | exact hb))).mono ?_); rintro _ _ ⟨⟨e4, rfl⟩, rfl⟩) | (go_at_call 65; (with_reducible refine (G5.out _ (by repeat (first | with_reducible exact hb | with_reducible refine Sl.over ?_ _ | with_reducible refine Sl.alloc ?_ _ | with_reducible refine Sl.drew ?_ | exact hb))).mono ?_); rintro _ _ ⟨⟨e5, rfl⟩, rfl⟩))
      (try simp only [Exit.inBlock, Exit.then])
      refine bodyPost_ret (v := ?rv91) ?rh91 rfl ?rp91
      case rh91 => (simp only [results, show Tryd.f62.results = #[.tmp 6, .tmp 7, .tmp 8] from rfl]; go_simp; rfl)
      refine ⟨(by (try unfold Ov); repeat (first | with_reducible exact ex_over | with_reducible exact over_self _ | with_reducible refine ex_undrew ?_ | with_reducible refine ex_into ?_ _ | with_reducible refine ex_alloc ?_ _ | with_reducible refine ex_drew ?_ | ((with_reducible refine ex_setCell ?_ ?_ _); rotate_left; (first | omega | (focus (simp; done)) | (focus (simp; omega)))) | ((with_reducible refine ex_chg ?_ _ ?_); rotate_left; (first | assumption | (exact Hid.out (by assumption)))) | exact ex_over)), ?_⟩
      rw [HV.out]; rfl
    obtain ⟨_, hp4, hS⟩ := getN_place g4
    by_cases h64 : 64 < L + (S + 1)
    · have h64' : (64 : Int) < (L : Int) + ((S : Int) + 1) := by omega
      have HV := hid (show valueX l at_ ⟨true, prev, lead, width⟩ = (0, 0, 30) by unfold valueX; simp only [g1, g2, g3, g4]; simp [h64])
      clear g1 g2 g3 g4 h64
      go_enter Tryd.func62, Tryd.ntmps62
      go_wp2_with (first | (go_at_call 65; (with_reducible refine (G1.out _ (by repeat (first | with_reducible exact hb | with_reducible refine Sl.over ?_ _ | with_reducible refine Sl.alloc ?_ _ | with_reducible refine Sl.drew ?_ | exact hb))).mono ?_); rintro _ _ ⟨⟨e1, rfl⟩, rfl⟩) | (go_at_call 65; (with_reducible refine (G2.out _ (by repeat (first | with_reducible exact hb | with_reducible refine Sl.over ?_ _ | with_reducible refine Sl.alloc ?_ _ | with_reducible refine Sl.drew ?_ | exact hb))).mono ?_); rintro _ _ ⟨⟨e2, rfl⟩, rfl⟩) | (go_at_call 65; (with_reducible refine (G3.out _ (by repeat (first | with_reducible exact hb | with_reducible refine Sl.over ?_ _ | with_reducible refine Sl.alloc ?_ _ | with_reducible refine Sl.drew ?_ | exact hb))).mono ?_); rintro _ _ ⟨⟨e3, rfl⟩, rfl⟩) | (go_at_call 65; (with_reducible refine (G4.out _ (by repeat (first | with_reducible exact hb | with_reducible refine Sl.over ?_ _ | with_reducible refine Sl.alloc ?_ _ | with_reducible refine Sl.drew ?_ | exact hb))).mono ?_); rintro _ _ ⟨⟨e4, rfl⟩, rfl⟩) | (go_at_call 65; (with_reducible refine (G5.out _ (by repeat (first | with_reducible exact hb | with_reducible refine Sl.over ?_ _ | with_reducible refine Sl.alloc ?_ _ | with_reducible refine Sl.drew ?_ | exact hb))).mono ?_); rintro _ _ ⟨⟨e5, rfl⟩, rfl⟩))
      (try simp only [Exit.inBlock, Exit.then])
      refine bodyPost_ret (v := ?rv92) ?rh92 rfl ?rp92
      case rh92 => (simp only [results, show Tryd.f62.results = #[.tmp 6, .tmp 7, .tmp 8] from rfl]; go_simp; rfl)
      refine ⟨(by (try unfold Ov); repeat (first | with_reducible exact ex_over | with_reducible exact over_self _ | with_reducible refine ex_undrew ?_ | with_reducible refine ex_into ?_ _ | with_reducible refine ex_alloc ?_ _ | with_reducible refine ex_drew ?_ | ((with_reducible refine ex_setCell ?_ ?_ _); rotate_left; (first | omega | (focus (simp; done)) | (focus (simp; omega)))) | ((with_reducible refine ex_chg ?_ _ ?_); rotate_left; (first | assumption | (exact Hid.out (by assumption)))) | exact ex_over)), ?_⟩
      rw [HV.out]; rfl
    have h64' : (L : Int) + ((S : Int) + 1) ≤ 64 := by omega
    obtain ⟨⟨d0, e5⟩, g5⟩ : ∃ p, getN l (at_ + 13) (S + 1) = p := ⟨_, rfl⟩
    have e5c := getN_err l (at_ + 13) (S + 1)
    rw [g5] at e5c
    simp only at e5c
    have G5 := hid (rg_i hl a cap (by omega) (by omega : S + 1 ≤ 64) g5 ((S : Int) + 1) (by omega))
    rcases e5c with rfl | rfl
    rotate_left
    · obtain ⟨rfl, _⟩ := getN_e g5 (by decide)
      have HV := hid (show valueX l at_ ⟨true, prev, lead, width⟩ = (0, 0, 10) by unfold valueX; simp only [g1, g2, g3, g4, g5]; simp [h64])
      clear g1 g2 g3 g4 g5 h64
      go_enter Tryd.func62, Tryd.ntmps62
      go_wp2_with (first | (go_at_call 65; (with_reducible refine (G1.out _ (by repeat (first | with_reducible exact hb | with_reducible refine Sl.over ?_ _ | with_reducible refine Sl.alloc ?_ _ | with_reducible refine Sl.drew ?_ | exact hb))).mono ?_); rintro _ _ ⟨⟨e1, rfl⟩, rfl⟩) | (go_at_call 65; (with_reducible refine (G2.out _ (by repeat (first | with_reducible exact hb | with_reducible refine Sl.over ?_ _ | with_reducible refine Sl.alloc ?_ _ | with_reducible refine Sl.drew ?_ | exact hb))).mono ?_); rintro _ _ ⟨⟨e2, rfl⟩, rfl⟩) | (go_at_call 65; (with_reducible refine (G3.out _ (by repeat (first | with_reducible exact hb | with_reducible refine Sl.over ?_ _ | with_reducible refine Sl.alloc ?_ _ | with_reducible refine Sl.drew ?_ | exact hb))).mono ?_); rintro _ _ ⟨⟨e3, rfl⟩, rfl⟩) | (go_at_call 65; (with_reducible refine (G4.out _ (by repeat (first | with_reducible exact hb | with_reducible refine Sl.over ?_ _ | with_reducible refine Sl.alloc ?_ _ | with_reducible refine Sl.drew ?_ | exact hb))).mono ?_); rintro _ _ ⟨⟨e4, rfl⟩, rfl⟩) | (go_at_call 65; (with_reducible refine (G5.out _ (by repeat (first | with_reducible exact hb | with_reducible refine Sl.over ?_ _ | with_reducible refine Sl.alloc ?_ _ | with_reducible refine Sl.drew ?_ | exact hb))).mono ?_); rintro _ _ ⟨⟨e5, rfl⟩, rfl⟩))
      (try simp only [Exit.inBlock, Exit.then])
      refine bodyPost_ret (v := ?rv93) ?rh93 rfl ?rp93
      case rh93 => (simp only [results, show Tryd.f62.results = #[.tmp 6, .tmp 7, .tmp 8] from rfl]; go_simp; rfl)
      refine ⟨(by (try unfold Ov); repeat (first | with_reducible exact ex_over | with_reducible exact over_self _ | with_reducible refine ex_undrew ?_ | with_reducible refine ex_into ?_ _ | with_reducible refine ex_alloc ?_ _ | with_reducible refine ex_drew ?_ | ((with_reducible refine ex_setCell ?_ ?_ _); rotate_left; (first | omega | (focus (simp; done)) | (focus (simp; omega)))) | ((with_reducible refine ex_chg ?_ _ ?_); rotate_left; (first | assumption | (exact Hid.out (by assumption)))) | exact ex_over)), ?_⟩
      rw [HV.out]; rfl
    · have HV := hid (show valueX l at_ ⟨true, prev, lead, width⟩ = (prev ^^^ (d0 <<< (64 - L - (S + 1)) % 18446744073709551616), 13 + (S + 1), 0) by unfold valueX; simp only [g1, g2, g3, g4, g5]; simp [h64])
      obtain ⟨_, _, hd0⟩ := getN_place g5
      clear g1 g2 g3 g4 g5 h64
      have hd0' : d0 < 18446744073709551616 := Nat.lt_of_lt_of_le hd0 (by rw [show 18446744073709551616 = 2 ^ 64 from rfl]; exact Nat.pow_le_pow_right (by omega) (by omega))
      have hsx := shx d0 (64 - L - (S + 1))
      have hlx := shl_lt64 d0 (64 - L - (S + 1))
      generalize d0 <<< (64 - L - (S + 1)) % 18446744073709551616 = d at *
      have hX := xor64 prev d hs1 hlx
      have hXl : prev ^^^ d < 18446744073709551616 := Nat.xor_lt_two_pow (n := 64) hs1 hlx
      clear hd0
      go_enter Tryd.func62, Tryd.ntmps62
      go_wp2_with (first | (go_at_call 65; (with_reducible refine (G1.out _ (by repeat (first | with_reducible exact hb | with_reducible refine Sl.over ?_ _ | with_reducible refine Sl.alloc ?_ _ | with_reducible refine Sl.drew ?_ | exact hb))).mono ?_); rintro _ _ ⟨⟨e1, rfl⟩, rfl⟩) | (go_at_call 65; (with_reducible refine (G2.out _ (by repeat (first | with_reducible exact hb | with_reducible refine Sl.over ?_ _ | with_reducible refine Sl.alloc ?_ _ | with_reducible refine Sl.drew ?_ | exact hb))).mono ?_); rintro _ _ ⟨⟨e2, rfl⟩, rfl⟩) | (go_at_call 65; (with_reducible refine (G3.out _ (by repeat (first | with_reducible exact hb | with_reducible refine Sl.over ?_ _ | with_reducible refine Sl.alloc ?_ _ | with_reducible refine Sl.drew ?_ | exact hb))).mono ?_); rintro _ _ ⟨⟨e3, rfl⟩, rfl⟩) | (go_at_call 65; (with_reducible refine (G4.out _ (by repeat (first | with_reducible exact hb | with_reducible refine Sl.over ?_ _ | with_reducible refine Sl.alloc ?_ _ | with_reducible refine Sl.drew ?_ | exact hb))).mono ?_); rintro _ _ ⟨⟨e4, rfl⟩, rfl⟩) | (go_at_call 65; (with_reducible refine (G5.out _ (by repeat (first | with_reducible exact hb | with_reducible refine Sl.over ?_ _ | with_reducible refine Sl.alloc ?_ _ | with_reducible refine Sl.drew ?_ | exact hb))).mono ?_); rintro _ _ ⟨⟨e5, rfl⟩, rfl⟩))
      (try simp only [Exit.inBlock, Exit.then])
      refine bodyPost_ret (v := ?rv94) ?rh94 rfl ?rp94
      case rh94 => (simp only [results, show Tryd.f62.results = #[.tmp 6, .tmp 7, .tmp 8] from rfl]; go_simp; rfl)
      refine ⟨(by (try unfold Ov); repeat (first | with_reducible exact ex_over | with_reducible exact over_self _ | with_reducible refine ex_undrew ?_ | with_reducible refine ex_into ?_ _ | with_reducible refine ex_alloc ?_ _ | with_reducible refine ex_drew ?_ | ((with_reducible refine ex_setCell ?_ ?_ _); rotate_left; (first | omega | (focus (simp; done)) | (focus (simp; omega)))) | ((with_reducible refine ex_chg ?_ _ ?_); rotate_left; (first | assumption | (exact Hid.out (by assumption)))) | exact ex_over)), ?_⟩
      rw [HV.out]; rfl
end Go.Proofs.YthljlajdkdgieaaDoor
namespace Go.Proofs.YthljlajdkdgieaaDoor
set_option linter.unusedVariables false
set_option linter.unusedSimpArgs false
open Go.RowKit
attribute [local go_sem] over_drew

abbrev rxgV (v : Nat) (n : Int) (t : Vl) (e : Nat) : Value := .tuple #[.int .u64 (v : Nat), .int .i64 n, t.v, .int .i64 (e : Nat)]

set_option maxRecDepth 100000 in
set_option maxHeartbeats 2000000 in
theorem rxget_no (bs : List Nat) (hbs : ∀ b ∈ bs, b < 256) (hl : bs.length ≤ 1000000) (N : Int) (hN : -9223372036854775808 ≤ N ∧ N ≤ 9223372036854775807) (a : Option Addr) (cap : Nat) (at_ : Int) (s : Vl) (hs : s.wf) (w : World) (hb : SlB w a cap bs)
    (hn : ¬ wrongX (soundB bs N) (soundV s) = 0) : Calls Tryd.prog 32 #[bv a bs.length cap N, .int .i64 at_, s.v] w (Ret w (rxgV 0 0 Vl.zero (wrongX (soundB bs N) (soundV s)))) := by
  have H1 := hid (fun W hW => rsound_any bs hbs hl N hN a cap W hW)
  have H2 := hid (fun W => rxsound_any s hs W)
  obtain ⟨hs1, hs2, hs3⟩ := hs
  cases g1 : soundB bs N
  · rw [g1] at H1
    rw [show wrongX false (soundV s) = 11 from rfl]
    clear hn
    go_enter Tryd.func32, Tryd.ntmps32
    go_wp2_with (go_at_call 46; (with_reducible refine (H1.out _ (by repeat (first | with_reducible exact hb | with_reducible refine Sl.over ?_ _ | with_reducible refine Sl.alloc ?_ _ | with_reducible refine Sl.drew ?_ | exact hb))).mono ?_); rintro _ _ ⟨⟨e1, rfl⟩, rfl⟩)
    (try simp only [Exit.inBlock, Exit.then])
    refine bodyPost_ret (v := ?rv76) ?rh76 rfl ?rp76
    case rh76 => (simp only [results, show Tryd.f32.results = #[.tmp 6, .tmp 7, .cell 8 24, .tmp 9] from rfl]; go_simp; rfl)
    exact ⟨(by (try unfold Ov); repeat (first | with_reducible exact ex_over | with_reducible exact over_self _ | with_reducible refine ex_undrew ?_ | with_reducible refine ex_into ?_ _ | with_reducible refine ex_alloc ?_ _ | with_reducible refine ex_drew ?_ | ((with_reducible refine ex_setCell ?_ ?_ _); rotate_left; (first | omega | (focus (simp; done)) | (focus (simp; omega)))) | ((with_reducible refine ex_chg ?_ _ ?_); rotate_left; (first | assumption | (exact Hid.out (by assumption)))) | exact ex_over)), rfl⟩
  · rw [g1] at H1 hn
    cases g2 : soundV s
    · rw [g2] at H2
      rw [show wrongX true false = 30 from rfl]
      clear hn
      go_enter Tryd.func32, Tryd.ntmps32
      go_wp2_with (first | (go_at_call 46; (with_reducible refine (H1.out _ (by repeat (first | with_reducible exact hb | with_reducible refine Sl.over ?_ _ | with_reducible refine Sl.alloc ?_ _ | with_reducible refine Sl.drew ?_ | exact hb))).mono ?_); rintro _ _ ⟨⟨e1, rfl⟩, rfl⟩) | (go_at_call 20; (with_reducible refine (H2.out _).mono ?_); rintro _ _ ⟨⟨e2, rfl⟩, rfl⟩))
      (try simp only [Exit.inBlock, Exit.then])
      refine bodyPost_ret (v := ?rv77) ?rh77 rfl ?rp77
      case rh77 => (simp only [results, show Tryd.f32.results = #[.tmp 6, .tmp 7, .cell 8 24, .tmp 9] from rfl]; go_simp; rfl)
      exact ⟨(by (try unfold Ov); repeat (first | with_reducible exact ex_over | with_reducible exact over_self _ | with_reducible refine ex_undrew ?_ | with_reducible refine ex_into ?_ _ | with_reducible refine ex_alloc ?_ _ | with_reducible refine ex_drew ?_ | ((with_reducible refine ex_setCell ?_ ?_ _); rotate_left; (first | omega | (focus (simp; done)) | (focus (simp; omega)))) | ((with_reducible refine ex_chg ?_ _ ?_); rotate_left; (first | assumption | (exact Hid.out (by assumption)))) | exact ex_over)), rfl⟩
    · rw [g2] at hn
      exact absurd rfl hn

set_option maxRecDepth 100000 in
set_option maxHeartbeats 4000000 in
/-- The place is none. -/
theorem rxget_far (l : List Bool) (hl : l.length ≤ 800000) (a : Option Addr) (cap : Nat) (at_ : Int) (hat : -9223372036854775808 ≤ at_ ∧ at_ ≤ 9223372036854775807) (h : at_ < 0 ∨ l.length < at_) (s : Vl) (hs : s.wf) (hsd : soundV s = true) (w : World) (hb : SlB w a cap (pack l)) :
    Calls Tryd.prog 32 #[bv a (pack l).length cap l.length, .int .i64 at_, s.v] w (Ret w (rxgV 0 0 Vl.zero 10)) := by
  have H1 := hid (fun W hW => rsound_any (pack l) pack_lt (pack_len_le (by omega)) l.length (by omega) a cap W hW)
  rw [sound_pack] at H1
  have H2 := hid (fun W => rxsound_any s hs W)
  rw [hsd] at H2
  obtain ⟨hs1, hs2, hs3⟩ := hs
  obtain ⟨ha1, ha2⟩ := hat
  by_cases h0 : at_ < 0
  · clear h
    go_enter Tryd.func32, Tryd.ntmps32
    go_wp2_with (first | (go_at_call 46; (with_reducible refine (H1.out _ (by repeat (first | with_reducible exact hb | with_reducible refine Sl.over ?_ _ | with_reducible refine Sl.alloc ?_ _ | with_reducible refine Sl.drew ?_ | exact hb))).mono ?_); rintro _ _ ⟨⟨e1, rfl⟩, rfl⟩) | (go_at_call 20; (with_reducible refine (H2.out _).mono ?_); rintro _ _ ⟨⟨e2, rfl⟩, rfl⟩))
    (try simp only [Exit.inBlock, Exit.then])
    refine bodyPost_ret (v := ?rv78) ?rh78 rfl ?rp78
    case rh78 => (simp only [results, show Tryd.f32.results = #[.tmp 6, .tmp 7, .cell 8 24, .tmp 9] from rfl]; go_simp; rfl)
    exact ⟨(by (try unfold Ov); repeat (first | with_reducible exact ex_over | with_reducible exact over_self _ | with_reducible refine ex_undrew ?_ | with_reducible refine ex_into ?_ _ | with_reducible refine ex_alloc ?_ _ | with_reducible refine ex_drew ?_ | ((with_reducible refine ex_setCell ?_ ?_ _); rotate_left; (first | omega | (focus (simp; done)) | (focus (simp; omega)))) | ((with_reducible refine ex_chg ?_ _ ?_); rotate_left; (first | assumption | (exact Hid.out (by assumption)))) | exact ex_over)), rfl⟩
  · have h1 : (l.length : Int) < at_ := by omega
    clear h
    go_enter Tryd.func32, Tryd.ntmps32
    go_wp2_with (first | (go_at_call 46; (with_reducible refine (H1.out _ (by repeat (first | with_reducible exact hb | with_reducible refine Sl.over ?_ _ | with_reducible refine Sl.alloc ?_ _ | with_reducible refine Sl.drew ?_ | exact hb))).mono ?_); rintro _ _ ⟨⟨e1, rfl⟩, rfl⟩) | (go_at_call 20; (with_reducible refine (H2.out _).mono ?_); rintro _ _ ⟨⟨e2, rfl⟩, rfl⟩))
    (try simp only [Exit.inBlock, Exit.then])
    refine bodyPost_ret (v := ?rv79) ?rh79 rfl ?rp79
    case rh79 => (simp only [results, show Tryd.f32.results = #[.tmp 6, .tmp 7, .cell 8 24, .tmp 9] from rfl]; go_simp; rfl)
    exact ⟨(by (try unfold Ov); repeat (first | with_reducible exact ex_over | with_reducible exact over_self _ | with_reducible refine ex_undrew ?_ | with_reducible refine ex_into ?_ _ | with_reducible refine ex_alloc ?_ _ | with_reducible refine ex_drew ?_ | ((with_reducible refine ex_setCell ?_ ?_ _); rotate_left; (first | omega | (focus (simp; done)) | (focus (simp; omega)))) | ((with_reducible refine ex_chg ?_ _ ?_); rotate_left; (first | assumption | (exact Hid.out (by assumption)))) | exact ex_over)), rfl⟩

set_option maxRecDepth 100000 in
set_option maxHeartbeats 4000000 in
/-- No value stands there. -/
theorem rxget_err (l : List Bool) (hl : l.length ≤ 800000) (a : Option Addr) (cap : Nat) (i : Nat) (hi : i ≤ l.length) (s : Vl) (hs : s.wf) (hsd : soundV s = true) (v n e : Nat) (hv : valueX l i s = (v, n, e)) (he : e ≠ 0) (w : World) (hb : SlB w a cap (pack l)) :
    Calls Tryd.prog 32 #[bv a (pack l).length cap l.length, .int .i64 (i : Nat), s.v] w (Ret w (rxgV 0 0 Vl.zero e)) := by
  have H1 := hid (fun W hW => rsound_any (pack l) pack_lt (pack_len_le (by omega)) l.length (by omega) a cap W hW)
  rw [sound_pack] at H1
  have H2 := hid (fun W => rxsound_any s hs W)
  rw [hsd] at H2
  have H3 := hid (fun W hW => rval_any l (by omega) i (by omega) s hs hsd a cap W hW)
  rw [hv] at H3
  have H3' : Hid (∀ W, SlB W a cap (pack l) → Calls Tryd.prog 62 #[bv a (pack l).length cap l.length, .int .i64 (i : Nat), s.v] W (Ret W (.tuple #[.int .u64 (v : Nat), .int .i64 (n : Nat), .int .i64 (e : Nat)]))) := H3
  clear H3 hv
  have he' : ((e : Int) != 0) = true := by simp; exact he
  obtain ⟨hs1, hs2, hs3⟩ := hs
  go_enter Tryd.func32, Tryd.ntmps32
  go_wp2_with (first | (go_at_call 46; (with_reducible refine (H1.out _ (by repeat (first | with_reducible exact hb | with_reducible refine Sl.over ?_ _ | with_reducible refine Sl.alloc ?_ _ | with_reducible refine Sl.drew ?_ | exact hb))).mono ?_); rintro _ _ ⟨⟨e1, rfl⟩, rfl⟩) | (go_at_call 20; (with_reducible refine (H2.out _).mono ?_); rintro _ _ ⟨⟨e2, rfl⟩, rfl⟩) | (go_at_call 62; (with_reducible refine (H3'.out _ (by repeat (first | with_reducible exact hb | with_reducible refine Sl.over ?_ _ | with_reducible refine Sl.alloc ?_ _ | with_reducible refine Sl.drew ?_ | exact hb))).mono ?_); rintro _ _ ⟨⟨e3, rfl⟩, rfl⟩))
  (try simp only [Exit.inBlock, Exit.then])
  refine bodyPost_ret (v := ?rv80) ?rh80 rfl ?rp80
  case rh80 => (simp only [results, show Tryd.f32.results = #[.tmp 6, .tmp 7, .cell 8 24, .tmp 9] from rfl]; go_simp; rfl)
  exact ⟨(by (try unfold Ov); repeat (first | with_reducible exact ex_over | with_reducible exact over_self _ | with_reducible refine ex_undrew ?_ | with_reducible refine ex_into ?_ _ | with_reducible refine ex_alloc ?_ _ | with_reducible refine ex_drew ?_ | ((with_reducible refine ex_setCell ?_ ?_ _); rotate_left; (first | omega | (focus (simp; done)) | (focus (simp; omega)))) | ((with_reducible refine ex_chg ?_ _ ?_); rotate_left; (first | assumption | (exact Hid.out (by assumption)))) | exact ex_over)), rfl⟩

theorem take_next {l r : List Bool} {i k : Nat} (hk : k < r.length) (hi : i + k < l.length) (h : r.take k = (l.drop i).take k) (hb : r[k] = l[i + k]) : r.take (k + 1) = (l.drop i).take (k + 1) := by
  rw [List.take_add_one, List.take_add_one, h, List.getElem?_drop, List.getElem?_eq_getElem hk, List.getElem?_eq_getElem hi, hb]
theorem take_not {l r : List Bool} {i k : Nat} (hk : k < r.length) (hi : i + k < l.length) (hb : r[k] ≠ l[i + k]) : r ≠ (l.drop i).take r.length := by
  intro h
  apply hb
  have := congrArg (fun q => q[k]?) h
  simp only [List.getElem?_eq_getElem hk, List.getElem?_take, if_pos hk, List.getElem?_drop, List.getElem?_eq_getElem hi] at this
  exact Option.some.inj this
theorem toNat_ne {b c : Bool} (h : b ≠ c) : ((b.toNat : Int) != (c.toNat : Int)) = true := by cases b <;> cases c <;> first | rfl | exact absurd rfl h

set_option maxRecDepth 100000 in
set_option maxHeartbeats 4000000 in
/-- A value stands there: is it written so? -/
theorem rxget_val (l : List Bool) (hl : l.length ≤ 800000) (a : Option Addr) (cap : Nat) (i : Nat) (s : Vl) (hs : s.wf) (hsd : soundV s = true) (v n : Nat) (hv : valueX l i s = (v, n, 0)) (hi : i + n ≤ l.length) (w : World) (hb : SlB w a cap (pack l)) :
    Calls Tryd.prog 32 #[bv a (pack l).length cap l.length, .int .i64 (i : Nat), s.v] w (Ret w (if (written s v).1 = (l.drop i).take n then rxgV v (i + n : Nat) (written s v).2 0 else rxgV 0 0 Vl.zero 30)) := by
  have H1 := hid (fun W hW => rsound_any (pack l) pack_lt (pack_len_le (by omega)) l.length (by omega) a cap W hW)
  rw [sound_pack] at H1
  have H2 := hid (fun W => rxsound_any s hs W)
  rw [hsd] at H2
  have H3 := hid (fun W hW => rval_any l (by omega) i (by omega) s hs hsd a cap W hW)
  rw [hv] at H3
  have H3' : Hid (∀ W, SlB W a cap (pack l) → Calls Tryd.prog 62 #[bv a (pack l).length cap l.length, .int .i64 (i : Nat), s.v] W (Ret W (.tuple #[.int .u64 (v : Nat), .int .i64 (n : Nat), .int .i64 0]))) := H3
  have hvl : v < 18446744073709551616 := by have := valueX_lt (l := l) (at_ := i) hs; rwa [hv] at this
  have H4 := hid (fun W => rwrit_any s hs hsd v hvl W)
  have HB := hid (fun k hk W hW => rbit_l l k hk (by omega) l.length a cap W hW)
  have hwl := (written_len hsd hs hvl).1
  generalize (written s v).1 = r at *
  generalize (written s v).2 = t at *
  clear H3 hv
  obtain ⟨hs1, hs2, hs3⟩ := hs
  obtain ⟨res, hres⟩ : ∃ res, (if r = (l.drop i).take n then rxgV v (i + n : Nat) t 0 else rxgV 0 0 Vl.zero 30) = res := ⟨_, rfl⟩
  rw [hres]
  by_cases hrn : r.length = n
  rotate_left
  · rw [if_neg (by intro h; apply hrn; rw [h, List.length_take, List.length_drop]; omega)] at hres
    subst hres
    have hrn' : ((r.length : Int) != (n : Int)) = true := by simp; omega
    clear hrn
    go_enter Tryd.func32, Tryd.ntmps32
    go_wp2_with (first | (go_at_call 46; (with_reducible refine (H1.out _ (by repeat (first | with_reducible exact hb | with_reducible refine Sl.over ?_ _ | with_reducible refine Sl.alloc ?_ _ | with_reducible refine Sl.drew ?_ | exact hb))).mono ?_); rintro _ _ ⟨⟨e1, rfl⟩, rfl⟩) | (go_at_call 20; (with_reducible refine (H2.out _).mono ?_); rintro _ _ ⟨⟨e2, rfl⟩, rfl⟩) | (go_at_call 62; (with_reducible refine (H3'.out _ (by repeat (first | with_reducible exact hb | with_reducible refine Sl.over ?_ _ | with_reducible refine Sl.alloc ?_ _ | with_reducible refine Sl.drew ?_ | exact hb))).mono ?_); rintro _ _ ⟨⟨e3, rfl⟩, rfl⟩) | (go_at_call 47; (with_reducible refine (H4.out _).mono ?_); rintro _ _ ⟨v4, rfl, ⟨e4, rfl⟩, ho4⟩; obtain ⟨a4, c4, rfl, s4⟩ := Own.slice tcs_len ho4; clear ho4))
    (try simp only [Exit.inBlock, Exit.then])
    refine bodyPost_ret (v := ?rv81) ?rh81 rfl ?rp81
    case rh81 => (simp only [results, show Tryd.f32.results = #[.tmp 6, .tmp 7, .cell 8 24, .tmp 9] from rfl]; go_simp; rfl)
    exact ⟨(by (try unfold Ov); repeat (first | with_reducible exact ex_over | with_reducible exact over_self _ | with_reducible refine ex_undrew ?_ | with_reducible refine ex_into ?_ _ | with_reducible refine ex_alloc ?_ _ | with_reducible refine ex_drew ?_ | ((with_reducible refine ex_setCell ?_ ?_ _); rotate_left; (first | omega | (focus (simp; done)) | (focus (simp; omega)))) | ((with_reducible refine ex_chg ?_ _ ?_); rotate_left; (first | assumption | (exact Hid.out (by assumption)))) | exact ex_over)), rfl⟩
  have hrn2 : ((r.length : Int) != (n : Int)) = false := by simp; omega
  have HRN := hid hrn
  clear hrn
  go_enter Tryd.func32, Tryd.ntmps32
  go_wp2_with (first | (go_at_call 46; (with_reducible refine (H1.out _ (by repeat (first | with_reducible exact hb | with_reducible refine Sl.over ?_ _ | with_reducible refine Sl.alloc ?_ _ | with_reducible refine Sl.drew ?_ | exact hb))).mono ?_); rintro _ _ ⟨⟨e1, rfl⟩, rfl⟩) | (go_at_call 20; (with_reducible refine (H2.out _).mono ?_); rintro _ _ ⟨⟨e2, rfl⟩, rfl⟩) | (go_at_call 62; (with_reducible refine (H3'.out _ (by repeat (first | with_reducible exact hb | with_reducible refine Sl.over ?_ _ | with_reducible refine Sl.alloc ?_ _ | with_reducible refine Sl.drew ?_ | exact hb))).mono ?_); rintro _ _ ⟨⟨e3, rfl⟩, rfl⟩) | (go_at_call 47; (with_reducible refine (H4.out _).mono ?_); rintro _ _ ⟨v4, rfl, ⟨e4, rfl⟩, ho4⟩; obtain ⟨a4, c4, rfl, s4⟩ := Own.slice tcs_len ho4; clear ho4))
  have HRES := hid hres
  clear hres
  go_loopw [17] (fun f wr => ∃ (k : Nat), k ≤ n ∧ f = .int .i64 (k : Nat) ∧ Ov ((over (over (over (over (((w.alloc (.cells #[.slice a (pack l).length cap, .int .i64 l.length] 29)).alloc (.cells #[.bool s.has, .int .u64  s.prev, .int .u8  s.lead, .int .u8  s.width] 24)).alloc (.cells #[.bool false, .int .u64  0, .int .u8  0, .int .u8  0] 24)) e1) e2) e3) e4).alloc (.cells #[.bool t.has, .int .u64  t.prev, .int .u8  t.lead, .int .u8  t.width] 24)) wr ∧ Hid (r.take k = (l.drop i).take k)) (fun f _ => n - (intOf f).toNat)
  case atStart =>
    exact ⟨0, Nat.zero_le _, rfl, (by (try unfold Ov); repeat (first | with_reducible exact ex_over | with_reducible exact over_self _ | with_reducible refine ex_undrew ?_ | with_reducible refine ex_into ?_ _ | with_reducible refine ex_alloc ?_ _ | with_reducible refine ex_drew ?_ | ((with_reducible refine ex_setCell ?_ ?_ _); rotate_left; (first | omega | (focus (simp; done)) | (focus (simp; omega)))) | ((with_reducible refine ex_chg ?_ _ ?_); rotate_left; (first | assumption | (exact Hid.out (by assumption)))) | exact ex_over)), hid (by simp)⟩
  case round =>
    obtain ⟨k, hk, rfl, ⟨e, rfl⟩, hto⟩ := hrel
    by_cases hlt : k < n
    · have hik : i + k < l.length := by omega
      have hkr : k < r.length := by have := HRN.out; omega
      obtain ⟨b6, o6, rfl, hb6, k0⟩ := SlT.at_ s4 hkr
      simp at hb6
      have hb7 : b6 < w.heap.size + 1 + 1 + 1 + e1.heap.size + e2.heap.size + e3.heap.size + e4.heap.size + 1 := by omega
      have hb8 : b6 < w.heap.size + 1 + 1 + 1 + e1.heap.size + e2.heap.size + e3.heap.size + e4.heap.size + 1 + e.heap.size := by omega
      have HBk := hid (fun W hW => HB.out (i + k) hik W hW)
      obtain ⟨X, hX⟩ : ∃ X, r[k].toNat = X := ⟨_, rfl⟩
      obtain ⟨Y, hY⟩ : ∃ Y, l[i + k].toNat = Y := ⟨_, rfl⟩
      rw [hX] at k0
      rw [hY] at HBk
      have hXY : r[k] = l[i + k] ↔ X = Y := by rw [← hX, ← hY]; constructor
                                               · intro h; rw [h]
                                               · intro h; revert h; cases r[k] <;> cases l[i + k] <;> simp
      obtain ⟨J, hJ⟩ : ∃ J, i + k = J := ⟨_, rfl⟩
      have hJi : (i : Int) + (k : Int) = (J : Int) := by omega
      rw [hJ] at HBk
      have hJm : J ≤ 900000 := by omega
      by_cases hbb : r[k] = l[i + k]
      · have hN := hid (take_next hkr hik hto.out hbb)
        have hbb2 : ((X : Int) != (Y : Int)) = false := by have := hXY.1 hbb; simp; omega
        clear hbb hXY hX hY hJ
        go_wp2_with fail
        refine M2.wp_region_mix [8] 10 (by kernel_rfl) (by kernel_rfl) (by decide) ?_
        simp only [List.take_succ_cons, List.take_zero, List.drop_succ_cons, List.drop_zero]
        with_reducible refine M2.mixL_quiet 8 (by kernel_rfl) ?_
        simp only [List.take_succ_cons, List.take_zero, List.drop_succ_cons, List.drop_zero]
        repeat (go_big_quiet_step (fail))
        with_reducible refine wpQuiet_nil ?_
        with_reducible refine M2.mixL_eff (by decide) ?_
        go_wp2_with ((go_at_call 63; (with_reducible refine (HBk.out _ (by repeat (first | with_reducible exact hb | with_reducible refine Sl.over ?_ _ | with_reducible refine Sl.alloc ?_ _ | with_reducible refine Sl.drew ?_ | exact hb))).mono ?_); rintro _ _ ⟨⟨e6, rfl⟩, rfl⟩))
        refine M2.MixQ.mk (by (try unfold Ov); repeat (first | with_reducible exact ex_over | with_reducible exact over_self _ | with_reducible refine ex_undrew ?_ | with_reducible refine ex_into ?_ _ | with_reducible refine ex_alloc ?_ _ | with_reducible refine ex_drew ?_ | ((with_reducible refine ex_setCell ?_ ?_ _); rotate_left; (first | omega | (focus (simp; done)) | (focus (simp; omega)))) | ((with_reducible refine ex_chg ?_ _ ?_); rotate_left; (first | assumption | (exact Hid.out (by assumption)))) | exact ex_over)) ?_
        with_reducible refine M2.mixL_quiet 1 (by kernel_rfl) ?_
        simp only [List.take_succ_cons, List.take_zero, List.drop_succ_cons, List.drop_zero]
        repeat (go_big_quiet_step (fail))
        with_reducible refine wpQuiet_nil ?_
        with_reducible refine M2.mixL_nil ?_
        with_reducible refine M2.mixL_nil ?_
        go_wp2_with fail
        go_roundw
        case rel => exact ⟨k + 1, by omega, by go_num, (by (try unfold Ov); repeat (first | with_reducible exact ex_over | with_reducible exact over_self _ | with_reducible refine ex_undrew ?_ | with_reducible refine ex_into ?_ _ | with_reducible refine ex_alloc ?_ _ | with_reducible refine ex_drew ?_ | ((with_reducible refine ex_setCell ?_ ?_ _); rotate_left; (first | omega | (focus (simp; done)) | (focus (simp; omega)))) | ((with_reducible refine ex_chg ?_ _ ?_); rotate_left; (first | assumption | (exact Hid.out (by assumption)))) | exact ex_over)), hN⟩
        case measure => simp [intOf]; omega
      · have hN := hid (show res = rxgV 0 0 Vl.zero 30 by
          rw [← HRES.out, if_neg]
          have := take_not hkr hik hbb
          rwa [HRN.out] at this)
        have hbb2 : ((X : Int) != (Y : Int)) = true := by have : ¬ X = Y := fun h => hbb (hXY.2 h); simp; omega
        clear hbb hXY hX hY hJ
        go_wp2_with fail
        refine M2.wp_region_mix [8] 10 (by kernel_rfl) (by kernel_rfl) (by decide) ?_
        simp only [List.take_succ_cons, List.take_zero, List.drop_succ_cons, List.drop_zero]
        with_reducible refine M2.mixL_quiet 8 (by kernel_rfl) ?_
        simp only [List.take_succ_cons, List.take_zero, List.drop_succ_cons, List.drop_zero]
        repeat (go_big_quiet_step (fail))
        with_reducible refine wpQuiet_nil ?_
        with_reducible refine M2.mixL_eff (by decide) ?_
        go_wp2_with ((go_at_call 63; (with_reducible refine (HBk.out _ (by repeat (first | with_reducible exact hb | with_reducible refine Sl.over ?_ _ | with_reducible refine Sl.alloc ?_ _ | with_reducible refine Sl.drew ?_ | exact hb))).mono ?_); rintro _ _ ⟨⟨e6, rfl⟩, rfl⟩))
        refine M2.MixQ.mk (by (try unfold Ov); repeat (first | with_reducible exact ex_over | with_reducible exact over_self _ | with_reducible refine ex_undrew ?_ | with_reducible refine ex_into ?_ _ | with_reducible refine ex_alloc ?_ _ | with_reducible refine ex_drew ?_ | ((with_reducible refine ex_setCell ?_ ?_ _); rotate_left; (first | omega | (focus (simp; done)) | (focus (simp; omega)))) | ((with_reducible refine ex_chg ?_ _ ?_); rotate_left; (first | assumption | (exact Hid.out (by assumption)))) | exact ex_over)) ?_
        with_reducible refine M2.mixL_quiet 1 (by kernel_rfl) ?_
        simp only [List.take_succ_cons, List.take_zero, List.drop_succ_cons, List.drop_zero]
        repeat (go_big_quiet_step (fail))
        with_reducible refine wpQuiet_nil ?_
        with_reducible refine M2.mixL_nil ?_
        with_reducible refine M2.mixL_nil ?_
        go_wp2_with fail
        (try simp only [Exit.inBlock, Exit.then])
        refine bodyPost_ret (v := ?rv82) ?rh82 rfl ?rp82
        case rh82 => (simp only [results, show Tryd.f32.results = #[.tmp 6, .tmp 7, .cell 8 24, .tmp 9] from rfl]; go_simp; rfl)
        exact ⟨(by (try unfold Ov); repeat (first | with_reducible exact ex_over | with_reducible exact over_self _ | with_reducible refine ex_undrew ?_ | with_reducible refine ex_into ?_ _ | with_reducible refine ex_alloc ?_ _ | with_reducible refine ex_drew ?_ | ((with_reducible refine ex_setCell ?_ ?_ _); rotate_left; (first | omega | (focus (simp; done)) | (focus (simp; omega)))) | ((with_reducible refine ex_chg ?_ _ ?_); rotate_left; (first | assumption | (exact Hid.out (by assumption)))) | exact ex_over)), by rw [hN.out]; rfl⟩
    · obtain rfl : k = n := by omega
      have hN := hid (show res = rxgV v (i + k : Nat) t 0 by
        rw [← HRES.out, if_pos]
        have := hto.out
        rwa [← HRN.out, List.take_length, HRN.out] at this)
      obtain ⟨F, hF⟩ : ∃ F, F = [w.heap.size + 1 + 1] := ⟨_, rfl⟩
      have n1 : w.heap.size + 1 + 1 ∈ F := by rw [hF]; simp
      have n2 : w.heap.size + 1 + 1 + 1 + e1.heap.size + e2.heap.size + e3.heap.size + e4.heap.size ∉ F := by rw [hF]; simp; omega
      clear hF
      go_wp2_with fail
      refine M2.wp_region_mixZ (fun w' => ∃ m : Mut, w' = chg F _ m) [7] 9 (by kernel_rfl) (by kernel_rfl) (by decide) (chg_of (Chg.refl _ _)) ?_
      simp only [List.take_succ_cons, List.take_zero, List.drop_succ_cons, List.drop_zero]
      with_reducible refine M2.mixL_quiet 7 (by kernel_rfl) ?_
      simp only [List.take_succ_cons, List.take_zero, List.drop_succ_cons, List.drop_zero]
      repeat (go_big_quiet_step (fail))
      with_reducible refine wpQuiet_nil ?_
      with_reducible refine M2.mixL_eff (by decide) ?_
      go_wp2_with (fail)
      refine M2.MixQ.mk (chg_of (by repeat (first | with_reducible exact Chg.refl _ _ | (focus (refine ChS.chg ?_; (repeat (first | with_reducible exact ChS.refl _ _ | with_reducible refine ChS.drewl ?_ | with_reducible refine ChS.drewr ?_ | with_reducible refine ChS.over ?_ _ | with_reducible refine chS_chgs ?_ _ | ((with_reducible refine chS_set ?_ _ ?_ _); rotate_left; (first | assumption | (focus (simp; done)) | (focus (simp; assumption)))) | with_reducible refine ChS.alloc ?_ _ | ((with_reducible refine ChS.lit ?_ ?_ _ _); rotate_left; (first | assumption | (focus (simp; done)) | (focus (simp; assumption)))) | with_reducible refine ChS.alloc ?_ _)); done)) | with_reducible refine Chg.alloc ?_ _ | with_reducible refine Chg.drew ?_ | with_reducible refine Chg.on ?_ _ | ((with_reducible refine Chg.setCell ?_ ?_ _); rotate_left; (first | (focus (left; assumption)) | (focus (left; simp; done)) | (focus (right; simp; done)) | (focus (right; simp; omega)) | (focus (left; simp; omega)))) | ((with_reducible refine Chg.in_ ?_ _ ?_); rotate_left; (first | assumption | (focus (intro i hi; left; simp at hi; subst hi; assumption)) | exact fun i hi => Or.inl hi | (focus (intro i hi; left; simp [hi]; done)) | (focus (intro i hi; left; simp at hi ⊢; simp [hi]; done)) | (focus (intro i hi; simp at hi ⊢; simp [hi]; done)) | (focus (intro i hi; simp at hi ⊢; omega))))))) ?_
      with_reducible refine M2.mixL_quiet 1 (by kernel_rfl) ?_
      simp only [List.take_succ_cons, List.take_zero, List.drop_succ_cons, List.drop_zero]
      repeat (go_big_quiet_step (fail))
      with_reducible refine wpQuiet_nil ?_
      with_reducible refine M2.mixL_nil ?_
      with_reducible refine M2.mixL_nil ?_
      go_wp2
      (try simp only [Exit.inBlock, Exit.then])
      refine bodyPost_ret (v := ?rv83) ?rh83 rfl ?rp83
      case rh83 => (simp only [results, show Tryd.f32.results = #[.tmp 6, .tmp 7, .cell 8 24, .tmp 9] from rfl]; go_simp; rfl)
      exact ⟨(by (try unfold Ov); repeat (first | with_reducible exact ex_over | with_reducible exact over_self _ | with_reducible refine ex_undrew ?_ | with_reducible refine ex_into ?_ _ | with_reducible refine ex_alloc ?_ _ | with_reducible refine ex_drew ?_ | ((with_reducible refine ex_setCell ?_ ?_ _); rotate_left; (first | omega | (focus (simp; done)) | (focus (simp; omega)))) | ((with_reducible refine ex_chg ?_ _ ?_); rotate_left; (first | assumption | (exact Hid.out (by assumption)))) | exact ex_over)), by rw [hN.out]; rfl⟩

/-- The document's Get, on sound bits. -/
theorem rxget_yes (l : List Bool) (hl : l.length ≤ 800000) (a : Option Addr) (cap : Nat) (at_ : Int) (hat : -9223372036854775808 ≤ at_ ∧ at_ ≤ 9223372036854775807) (s : Vl) (hs : s.wf) (hsd : soundV s = true) (w : World) (hb : SlB w a cap (pack l)) :
    Calls Tryd.prog 32 #[bv a (pack l).length cap l.length, .int .i64 at_, s.v] w (Ret w (rxgV (getX l at_ s).1 (getX l at_ s).2.1 (getX l at_ s).2.2.1 (getX l at_ s).2.2.2)) := by
  by_cases h : at_ < 0 ∨ l.length < at_
  · rw [getX_far h]
    exact rxget_far l hl a cap at_ hat h s hs hsd w hb
  · obtain ⟨i, rfl⟩ : ∃ i : Nat, at_ = i := ⟨at_.toNat, by omega⟩
    obtain ⟨⟨v, n, e⟩, hv⟩ : ∃ p, valueX l i s = p := ⟨_, rfl⟩
    by_cases he : e = 0
    · subst he
      have hle := value_len (l := l) (at_ := i) (s := s) (by rw [hv])
      rw [hv] at hle
      rw [getX_val hv (by omega)]
      have := rxget_val l hl a cap i s hs hsd v n hv (by simp only at hle; omega) w hb
      split
      · rename_i hc; rw [if_pos hc] at this; exact this
      · rename_i hc; rw [if_neg hc] at this; exact this
    · rw [getX_err (by rw [hv]) he h]
      exact rxget_err l hl a cap i (by omega) s hs hsd v n e hv he w hb
end Go.Proofs.YthljlajdkdgieaaDoor
namespace Go.Proofs.YthljlajdkdgieaaDoor
set_option linter.unusedVariables false
set_option linter.unusedSimpArgs false
open Go.RowKit
attribute [local go_sem] over_drew

abbrev rzgV (p : Int × Int × Nat) : Value := .tuple #[.int .i64 p.1, .int .i64 p.2.1, .int .i64 (p.2.2 : Nat)]

set_option maxRecDepth 100000 in
set_option maxHeartbeats 2000000 in
theorem rzget_far (l : List Bool) (hl : l.length ≤ 800000) (a : Option Addr) (cap : Nat) (at_ : Int) (hat : -9223372036854775808 ≤ at_ ∧ at_ ≤ 9223372036854775807) (h : at_ < 0 ∨ l.length < at_) (w : World) (hb : SlB w a cap (pack l)) :
    Calls Tryd.prog 66 #[bv a (pack l).length cap l.length, .int .i64 at_] w (Ret w (rzgV (0, 0, 10))) := by
  have HS := hid (fun W hW => rsound_any (pack l) pack_lt (pack_len_le (by omega)) l.length (by omega) a cap W hW)
  rw [sound_pack] at HS
  obtain ⟨h1, h2⟩ := hat
  by_cases h0 : at_ < 0
  · clear h
    go_enter Tryd.func66, Tryd.ntmps66
    go_wp2_with (go_at_call 46; (with_reducible refine (HS.out _ (by repeat (first | with_reducible exact hb | with_reducible refine Sl.over ?_ _ | with_reducible refine Sl.alloc ?_ _ | with_reducible refine Sl.drew ?_ | exact hb))).mono ?_); rintro _ _ ⟨⟨e1, rfl⟩, rfl⟩)
    (try simp only [Exit.inBlock, Exit.then])
    refine bodyPost_ret (v := ?rv95) ?rh95 rfl ?rp95
    case rh95 => (simp only [results, show Tryd.f66.results = #[.tmp 4, .tmp 5, .tmp 6] from rfl]; go_simp; rfl)
    exact ⟨(by (try unfold Ov); repeat (first | with_reducible exact ex_over | with_reducible exact over_self _ | with_reducible refine ex_undrew ?_ | with_reducible refine ex_into ?_ _ | with_reducible refine ex_alloc ?_ _ | with_reducible refine ex_drew ?_ | ((with_reducible refine ex_setCell ?_ ?_ _); rotate_left; (first | omega | (focus (simp; done)) | (focus (simp; omega)))) | ((with_reducible refine ex_chg ?_ _ ?_); rotate_left; (first | assumption | (exact Hid.out (by assumption)))) | exact ex_over)), rfl⟩
  · have h3 : (l.length : Int) < at_ := by omega
    clear h
    go_enter Tryd.func66, Tryd.ntmps66
    go_wp2_with (go_at_call 46; (with_reducible refine (HS.out _ (by repeat (first | with_reducible exact hb | with_reducible refine Sl.over ?_ _ | with_reducible refine Sl.alloc ?_ _ | with_reducible refine Sl.drew ?_ | exact hb))).mono ?_); rintro _ _ ⟨⟨e1, rfl⟩, rfl⟩)
    (try simp only [Exit.inBlock, Exit.then])
    refine bodyPost_ret (v := ?rv96) ?rh96 rfl ?rp96
    case rh96 => (simp only [results, show Tryd.f66.results = #[.tmp 4, .tmp 5, .tmp 6] from rfl]; go_simp; rfl)
    exact ⟨(by (try unfold Ov); repeat (first | with_reducible exact ex_over | with_reducible exact over_self _ | with_reducible refine ex_undrew ?_ | with_reducible refine ex_into ?_ _ | with_reducible refine ex_alloc ?_ _ | with_reducible refine ex_drew ?_ | ((with_reducible refine ex_setCell ?_ ?_ _); rotate_left; (first | omega | (focus (simp; done)) | (focus (simp; omega)))) | ((with_reducible refine ex_chg ?_ _ ?_); rotate_left; (first | assumption | (exact Hid.out (by assumption)))) | exact ex_over)), rfl⟩

/-- What is done behind the row: the number there, or an error. -/
def rzRes (n : Int) (K m e : Nat) : Int × Int × Nat := if e ≠ 0 then (0, 0, 10) else if zrow m ≠ K then (0, 0, 11) else (unfoldZ m, n + zw K, 0)

set_option maxRecDepth 100000 in
set_option maxHeartbeats 4000000 in
theorem rzget_in (l : List Bool) (hl : l.length ≤ 800000) (a : Option Addr) (cap : Nat) (i : Nat) (hi : i ≤ l.length) (w : World) (hb : SlB w a cap (pack l)) :
    Calls Tryd.prog 66 #[bv a (pack l).length cap l.length, .int .i64 (i : Nat)] w (Ret w (rzgV (getZ l i))) := by
  have HS := hid (fun W hW => rsound_any (pack l) pack_lt (pack_len_le (by omega)) l.length (by omega) a cap W hW)
  rw [sound_pack] at HS
  obtain ⟨s1, s2, s3, s4⟩ := ones_spec l i
  have s4 := s4 hi
  have hzl := zhead_len s3
  obtain ⟨res, hres⟩ : ∃ res, getZ l i = res := ⟨_, rfl⟩
  rw [hres]
  unfold getZ at hres
  rw [if_neg (by omega), Int.toNat_natCast, hzl] at hres
  generalize ones (l.drop i) 5 = K at *
  obtain ⟨n, hn⟩ : ∃ n : Nat, i + min (K + 1) 5 = n := ⟨_, rfl⟩
  rw [show (i : Int) + ((min (K + 1) 5 : Nat) : Int) = (n : Int) by omega] at hres
  obtain ⟨⟨m, e2⟩, hg⟩ : ∃ p, getN l (n : Int) (zw K) = p := ⟨_, rfl⟩
  rw [hg] at hres
  have HRE := hid hres
  have HR := hid (fun W => rrow_any K s3 W)
  have HG := hid (rg_of (l := l) (by omega) a cap (at_ := (n : Int)) (by omega) (zw_le K) hg)
  have hml := getN_lt l (n : Int) (zw K)
  rw [hg] at hml
  have hm : m < 18446744073709551616 := Nat.lt_of_lt_of_le hml (by rw [show 18446744073709551616 = 2 ^ 64 from rfl]; exact Nat.pow_le_pow_right (by omega) (zw_le K))
  have HE0 := hid (fun (_ : e2 = 0) => (⟨hm, zrow_fits s3 hml⟩ : m < 18446744073709551616 ∧ zrow m ≤ K))
  have HE1 := hid (fun (h : e2 ≠ 0) => (getN_e hg h).2)
  have HU := hid (fun W => runfold_any m hm W)
  have hzw := zw_le K
  have S1 := hid s1
  have S2 := hid s2
  clear hres s1 s2 hzl hg hml
  have d4 : decide ((i : Int) < 0) = false := decide_eq_false (by omega)
  have d5 : decide (l.length < i) = false := decide_eq_false (by omega)
  have d6 : decide ((l.length : Int) < (i : Int)) = false := decide_eq_false (by omega)
  go_enter Tryd.func66, Tryd.ntmps66
  go_wp2_with (go_at_call 46; (with_reducible refine (HS.out _ (by repeat (first | with_reducible exact hb | with_reducible refine Sl.over ?_ _ | with_reducible refine Sl.alloc ?_ _ | with_reducible refine Sl.drew ?_ | exact hb))).mono ?_); rintro _ _ ⟨⟨e1, rfl⟩, rfl⟩)
  go_loopw [1, 8] (fun at_ k wr => ∃ (j : Nat), j ≤ K ∧ k = .int .i64 (j : Nat) ∧ at_ = .int .i64 ((i + j : Nat) : Int) ∧ Ov (w.alloc (.cells #[.slice a (pack l).length cap, .int .i64 l.length] 29)) wr) (fun _ k _ => 5 - (intOf k).toNat)
  case atStart => exact ⟨0, Nat.zero_le _, rfl, rfl, (by (try unfold Ov); repeat (first | with_reducible exact ex_over | with_reducible exact over_self _ | with_reducible refine ex_undrew ?_ | with_reducible refine ex_into ?_ _ | with_reducible refine ex_alloc ?_ _ | with_reducible refine ex_drew ?_ | ((with_reducible refine ex_setCell ?_ ?_ _); rotate_left; (first | omega | (focus (simp; done)) | (focus (simp; omega)))) | ((with_reducible refine ex_chg ?_ _ ?_); rotate_left; (first | assumption | (exact Hid.out (by assumption)))) | exact ex_over))⟩
  case round =>
    obtain ⟨j, hj, rfl, rfl, ⟨e, rfl⟩⟩ := hrel
    obtain ⟨J, hJ⟩ : ∃ J, i + j = J := ⟨_, rfl⟩
    have hJm : J ≤ 900000 := by omega
    by_cases hlt : j < K
    · obtain ⟨b1, b2⟩ := S1.out j hlt
      have H1 := hid (fun W hW => rbit_l l (i + j) b1 (by omega) l.length a cap W hW)
      rw [← getD_getElem b1, b2] at H1
      have H1' : Hid (∀ W, SlB W a cap (pack l) → Calls Tryd.prog 63 #[bv a (pack l).length cap l.length, .int .i64 ((i + j : Nat) : Int)] W (Ret W (.int .u8 1))) := H1
      rw [hJ] at H1' b1 ⊢
      have hj5 : (j : Int) < 5 := by omega
      have hJj : J + 1 = i + (j + 1) := by omega
      clear b2 hJ H1
      go_wp2_with (go_at_call 63; (with_reducible refine (H1'.out _ (by repeat (first | with_reducible exact hb | with_reducible refine Sl.over ?_ _ | with_reducible refine Sl.alloc ?_ _ | with_reducible refine Sl.drew ?_ | exact hb))).mono ?_); rintro _ _ ⟨⟨e2, rfl⟩, rfl⟩)
      go_roundw
      case rel => exact ⟨j + 1, by omega, by go_num, by rw [← hJj]; go_num, (by (try unfold Ov); repeat (first | with_reducible exact ex_over | with_reducible exact over_self _ | with_reducible refine ex_undrew ?_ | with_reducible refine ex_into ?_ _ | with_reducible refine ex_alloc ?_ _ | with_reducible refine ex_drew ?_ | ((with_reducible refine ex_setCell ?_ ?_ _); rotate_left; (first | omega | (focus (simp; done)) | (focus (simp; omega)))) | ((with_reducible refine ex_chg ?_ _ ?_); rotate_left; (first | assumption | (exact Hid.out (by assumption)))) | exact ex_over))⟩
      case measure => simp [intOf]; omega
    · obtain rfl : j = K := by omega
      by_cases h5 : j < 5
      · have hj5 : (j : Int) < 5 := by omega
        by_cases hin : i + j < l.length
        · have b2 := S2.out h5 hin
          have H1 := hid (fun W hW => rbit_l l (i + j) hin (by omega) l.length a cap W hW)
          rw [← getD_getElem hin, b2] at H1
          have H1' : Hid (∀ W, SlB W a cap (pack l) → Calls Tryd.prog 63 #[bv a (pack l).length cap l.length, .int .i64 ((i + j : Nat) : Int)] W (Ret W (.int .u8 0))) := H1
          have hJn : (J : Int) + 1 = (n : Int) := by omega
          have hre := HRE.out
          rw [if_neg (by omega)] at hre
          have HRES : Hid ((if e2 ≠ 0 then (0, 0, 10) else if zrow m ≠ j then (0, 0, 11) else (unfoldZ m, (n : Int) + zw j, 0)) = res) := hid hre
          rw [hJ] at H1' hin ⊢
          clear b2 hJ hn hre H1 HRE
          generalize j = K at *
          by_cases he : e2 = 0
          · subst he
            have he' := HE0.out rfl
            by_cases hr : zrow m = K
            · have hN := hid (show res = (unfoldZ m, (n : Int) + zw K, 0) by rw [← HRES.out, if_neg (by decide), if_neg (by simpa using hr)])
              by_cases h0 : 0 < K
              · obtain ⟨Q, hQ⟩ : ∃ Q, K - 1 = Q := ⟨_, rfl⟩
                have HF := hid (fun W => rfits_any m Q he'.1 (by omega) W)
                rw [decide_eq_false (show ¬ zrow m ≤ Q by omega)] at HF
                have hk1 : (K : Int) - 1 = (Q : Int) := by omega
                have hk2 : (0 : Int) < (K : Int) := by omega
                clear hr he' hQ
                generalize zw K = W at *
                go_wp2_with (first | (go_at_call 63; (with_reducible refine (H1'.out _ (by repeat (first | with_reducible exact hb | with_reducible refine Sl.over ?_ _ | with_reducible refine Sl.alloc ?_ _ | with_reducible refine Sl.drew ?_ | exact hb))).mono ?_); rintro _ _ ⟨⟨e2, rfl⟩, rfl⟩) | (go_at_call 81; (with_reducible refine (HR.out _).mono ?_); rintro _ _ ⟨⟨e3, rfl⟩, rfl⟩) | (go_at_call 65; (with_reducible refine (HG.out _ (by repeat (first | with_reducible exact hb | with_reducible refine Sl.over ?_ _ | with_reducible refine Sl.alloc ?_ _ | with_reducible refine Sl.drew ?_ | exact hb))).mono ?_); rintro _ _ ⟨⟨e4, rfl⟩, rfl⟩) | (go_at_call 80; (with_reducible refine (HF.out _).mono ?_); rintro _ _ ⟨⟨e5, rfl⟩, rfl⟩) | (go_at_call 85; (with_reducible refine (HU.out _).mono ?_); rintro _ _ ⟨⟨e6, rfl⟩, rfl⟩))
                (try simp only [Exit.inBlock, Exit.then])
                refine bodyPost_ret (v := ?rv97) ?rh97 rfl ?rp97
                case rh97 => (simp only [results, show Tryd.f66.results = #[.tmp 4, .tmp 5, .tmp 6] from rfl]; go_simp; rfl)
                exact ⟨(by (try unfold Ov); repeat (first | with_reducible exact ex_over | with_reducible exact over_self _ | with_reducible refine ex_undrew ?_ | with_reducible refine ex_into ?_ _ | with_reducible refine ex_alloc ?_ _ | with_reducible refine ex_drew ?_ | ((with_reducible refine ex_setCell ?_ ?_ _); rotate_left; (first | omega | (focus (simp; done)) | (focus (simp; omega)))) | ((with_reducible refine ex_chg ?_ _ ?_); rotate_left; (first | assumption | (exact Hid.out (by assumption)))) | exact ex_over)), by rw [hN.out] <;> rfl⟩
              · have hk2 : ¬ (0 : Int) < (K : Int) := by omega
                clear hr he'
                generalize zw K = W at *
                go_wp2_with (first | (go_at_call 63; (with_reducible refine (H1'.out _ (by repeat (first | with_reducible exact hb | with_reducible refine Sl.over ?_ _ | with_reducible refine Sl.alloc ?_ _ | with_reducible refine Sl.drew ?_ | exact hb))).mono ?_); rintro _ _ ⟨⟨e2, rfl⟩, rfl⟩) | (go_at_call 81; (with_reducible refine (HR.out _).mono ?_); rintro _ _ ⟨⟨e3, rfl⟩, rfl⟩) | (go_at_call 65; (with_reducible refine (HG.out _ (by repeat (first | with_reducible exact hb | with_reducible refine Sl.over ?_ _ | with_reducible refine Sl.alloc ?_ _ | with_reducible refine Sl.drew ?_ | exact hb))).mono ?_); rintro _ _ ⟨⟨e4, rfl⟩, rfl⟩) | (go_at_call 85; (with_reducible refine (HU.out _).mono ?_); rintro _ _ ⟨⟨e6, rfl⟩, rfl⟩))
                (try simp only [Exit.inBlock, Exit.then])
                refine bodyPost_ret (v := ?rv98) ?rh98 rfl ?rp98
                case rh98 => (simp only [results, show Tryd.f66.results = #[.tmp 4, .tmp 5, .tmp 6] from rfl]; go_simp; rfl)
                exact ⟨(by (try unfold Ov); repeat (first | with_reducible exact ex_over | with_reducible exact over_self _ | with_reducible refine ex_undrew ?_ | with_reducible refine ex_into ?_ _ | with_reducible refine ex_alloc ?_ _ | with_reducible refine ex_drew ?_ | ((with_reducible refine ex_setCell ?_ ?_ _); rotate_left; (first | omega | (focus (simp; done)) | (focus (simp; omega)))) | ((with_reducible refine ex_chg ?_ _ ?_); rotate_left; (first | assumption | (exact Hid.out (by assumption)))) | exact ex_over)), by rw [hN.out] <;> rfl⟩
            · have hN := hid (show res = (0, 0, 11) by rw [← HRES.out, if_neg (by decide), if_pos hr])
              have h0 : 0 < K := by have := he'.2; omega
              obtain ⟨Q, hQ⟩ : ∃ Q, K - 1 = Q := ⟨_, rfl⟩
              have HF := hid (fun W => rfits_any m Q he'.1 (by omega) W)
              rw [decide_eq_true (show zrow m ≤ Q by have := he'.2; omega)] at HF
              have hk1 : (K : Int) - 1 = (Q : Int) := by omega
              have hk2 : (0 : Int) < (K : Int) := by omega
              clear hr he' hQ
              generalize zw K = W at *
              go_wp2_with (first | (go_at_call 63; (with_reducible refine (H1'.out _ (by repeat (first | with_reducible exact hb | with_reducible refine Sl.over ?_ _ | with_reducible refine Sl.alloc ?_ _ | with_reducible refine Sl.drew ?_ | exact hb))).mono ?_); rintro _ _ ⟨⟨e2, rfl⟩, rfl⟩) | (go_at_call 81; (with_reducible refine (HR.out _).mono ?_); rintro _ _ ⟨⟨e3, rfl⟩, rfl⟩) | (go_at_call 65; (with_reducible refine (HG.out _ (by repeat (first | with_reducible exact hb | with_reducible refine Sl.over ?_ _ | with_reducible refine Sl.alloc ?_ _ | with_reducible refine Sl.drew ?_ | exact hb))).mono ?_); rintro _ _ ⟨⟨e4, rfl⟩, rfl⟩) | (go_at_call 80; (with_reducible refine (HF.out _).mono ?_); rintro _ _ ⟨⟨e5, rfl⟩, rfl⟩))
              (try simp only [Exit.inBlock, Exit.then])
              refine bodyPost_ret (v := ?rv99) ?rh99 rfl ?rp99
              case rh99 => (simp only [results, show Tryd.f66.results = #[.tmp 4, .tmp 5, .tmp 6] from rfl]; go_simp; rfl)
              exact ⟨(by (try unfold Ov); repeat (first | with_reducible exact ex_over | with_reducible exact over_self _ | with_reducible refine ex_undrew ?_ | with_reducible refine ex_into ?_ _ | with_reducible refine ex_alloc ?_ _ | with_reducible refine ex_drew ?_ | ((with_reducible refine ex_setCell ?_ ?_ _); rotate_left; (first | omega | (focus (simp; done)) | (focus (simp; omega)))) | ((with_reducible refine ex_chg ?_ _ ?_); rotate_left; (first | assumption | (exact Hid.out (by assumption)))) | exact ex_over)), by rw [hN.out] <;> rfl⟩
          · have hN := hid (show res = (0, 0, 10) by rw [← HRES.out, if_pos he])
            have he' : ((e2 : Int) != 0) = true := by simp; exact he
            have he10 := HE1.out he
            subst he10
            generalize zw K = W at *
            go_wp2_with (first | (go_at_call 63; (with_reducible refine (H1'.out _ (by repeat (first | with_reducible exact hb | with_reducible refine Sl.over ?_ _ | with_reducible refine Sl.alloc ?_ _ | with_reducible refine Sl.drew ?_ | exact hb))).mono ?_); rintro _ _ ⟨⟨e2, rfl⟩, rfl⟩) | (go_at_call 81; (with_reducible refine (HR.out _).mono ?_); rintro _ _ ⟨⟨e3, rfl⟩, rfl⟩) | (go_at_call 65; (with_reducible refine (HG.out _ (by repeat (first | with_reducible exact hb | with_reducible refine Sl.over ?_ _ | with_reducible refine Sl.alloc ?_ _ | with_reducible refine Sl.drew ?_ | exact hb))).mono ?_); rintro _ _ ⟨⟨e4, rfl⟩, rfl⟩))
            (try simp only [Exit.inBlock, Exit.then])
            refine bodyPost_ret (v := ?rv100) ?rh100 rfl ?rp100
            case rh100 => (simp only [results, show Tryd.f66.results = #[.tmp 4, .tmp 5, .tmp 6] from rfl]; go_simp; rfl)
            exact ⟨(by (try unfold Ov); repeat (first | with_reducible exact ex_over | with_reducible exact over_self _ | with_reducible refine ex_undrew ?_ | with_reducible refine ex_into ?_ _ | with_reducible refine ex_alloc ?_ _ | with_reducible refine ex_drew ?_ | ((with_reducible refine ex_setCell ?_ ?_ _); rotate_left; (first | omega | (focus (simp; done)) | (focus (simp; omega)))) | ((with_reducible refine ex_chg ?_ _ ?_); rotate_left; (first | assumption | (exact Hid.out (by assumption)))) | exact ex_over)), by rw [hN.out] <;> rfl⟩
        · have hN := hid (show res = (0, 0, 10) by rw [← HRE.out, if_pos (by omega)])
          have hJl : ((l.length : Int)) ≤ (J : Int) := by omega
          rw [hJ]
          clear hJ hin HRE hn
          go_wp2_with fail
          (try simp only [Exit.inBlock, Exit.then])
          refine bodyPost_ret (v := ?rv101) ?rh101 rfl ?rp101
          case rh101 => (simp only [results, show Tryd.f66.results = #[.tmp 4, .tmp 5, .tmp 6] from rfl]; go_simp; rfl)
          exact ⟨(by (try unfold Ov); repeat (first | with_reducible exact ex_over | with_reducible exact over_self _ | with_reducible refine ex_undrew ?_ | with_reducible refine ex_into ?_ _ | with_reducible refine ex_alloc ?_ _ | with_reducible refine ex_drew ?_ | ((with_reducible refine ex_setCell ?_ ?_ _); rotate_left; (first | omega | (focus (simp; done)) | (focus (simp; omega)))) | ((with_reducible refine ex_chg ?_ _ ?_); rotate_left; (first | assumption | (exact Hid.out (by assumption)))) | exact ex_over)), by rw [hN.out] <;> rfl⟩
      · have hJn : (J : Int) = (n : Int) := by omega
        have hre := HRE.out
        rw [if_neg (by omega)] at hre
        have HRES : Hid ((if e2 ≠ 0 then (0, 0, 10) else if zrow m ≠ j then (0, 0, 11) else (unfoldZ m, (n : Int) + zw j, 0)) = res) := hid hre
        have hK5 : ¬ (j : Int) < 5 := by omega
        rw [hJ]
        clear hJ hn hre HRE
        generalize j = K at *
        by_cases he : e2 = 0
        · subst he
          have he' := HE0.out rfl
          by_cases hr : zrow m = K
          · have hN := hid (show res = (unfoldZ m, (n : Int) + zw K, 0) by rw [← HRES.out, if_neg (by decide), if_neg (by simpa using hr)])
            by_cases h0 : 0 < K
            · obtain ⟨Q, hQ⟩ : ∃ Q, K - 1 = Q := ⟨_, rfl⟩
              have HF := hid (fun W => rfits_any m Q he'.1 (by omega) W)
              rw [decide_eq_false (show ¬ zrow m ≤ Q by omega)] at HF
              have hk1 : (K : Int) - 1 = (Q : Int) := by omega
              have hk2 : (0 : Int) < (K : Int) := by omega
              clear hr he' hQ
              generalize zw K = W at *
              go_wp2_with (first | fail | (go_at_call 81; (with_reducible refine (HR.out _).mono ?_); rintro _ _ ⟨⟨e3, rfl⟩, rfl⟩) | (go_at_call 65; (with_reducible refine (HG.out _ (by repeat (first | with_reducible exact hb | with_reducible refine Sl.over ?_ _ | with_reducible refine Sl.alloc ?_ _ | with_reducible refine Sl.drew ?_ | exact hb))).mono ?_); rintro _ _ ⟨⟨e4, rfl⟩, rfl⟩) | (go_at_call 80; (with_reducible refine (HF.out _).mono ?_); rintro _ _ ⟨⟨e5, rfl⟩, rfl⟩) | (go_at_call 85; (with_reducible refine (HU.out _).mono ?_); rintro _ _ ⟨⟨e6, rfl⟩, rfl⟩))
              (try simp only [Exit.inBlock, Exit.then])
              refine bodyPost_ret (v := ?rv102) ?rh102 rfl ?rp102
              case rh102 => (simp only [results, show Tryd.f66.results = #[.tmp 4, .tmp 5, .tmp 6] from rfl]; go_simp; rfl)
              exact ⟨(by (try unfold Ov); repeat (first | with_reducible exact ex_over | with_reducible exact over_self _ | with_reducible refine ex_undrew ?_ | with_reducible refine ex_into ?_ _ | with_reducible refine ex_alloc ?_ _ | with_reducible refine ex_drew ?_ | ((with_reducible refine ex_setCell ?_ ?_ _); rotate_left; (first | omega | (focus (simp; done)) | (focus (simp; omega)))) | ((with_reducible refine ex_chg ?_ _ ?_); rotate_left; (first | assumption | (exact Hid.out (by assumption)))) | exact ex_over)), by rw [hN.out] <;> rfl⟩
            · have hk2 : ¬ (0 : Int) < (K : Int) := by omega
              clear hr he'
              generalize zw K = W at *
              go_wp2_with (first | fail | (go_at_call 81; (with_reducible refine (HR.out _).mono ?_); rintro _ _ ⟨⟨e3, rfl⟩, rfl⟩) | (go_at_call 65; (with_reducible refine (HG.out _ (by repeat (first | with_reducible exact hb | with_reducible refine Sl.over ?_ _ | with_reducible refine Sl.alloc ?_ _ | with_reducible refine Sl.drew ?_ | exact hb))).mono ?_); rintro _ _ ⟨⟨e4, rfl⟩, rfl⟩) | (go_at_call 85; (with_reducible refine (HU.out _).mono ?_); rintro _ _ ⟨⟨e6, rfl⟩, rfl⟩))
              (try simp only [Exit.inBlock, Exit.then])
              refine bodyPost_ret (v := ?rv103) ?rh103 rfl ?rp103
              case rh103 => (simp only [results, show Tryd.f66.results = #[.tmp 4, .tmp 5, .tmp 6] from rfl]; go_simp; rfl)
              exact ⟨(by (try unfold Ov); repeat (first | with_reducible exact ex_over | with_reducible exact over_self _ | with_reducible refine ex_undrew ?_ | with_reducible refine ex_into ?_ _ | with_reducible refine ex_alloc ?_ _ | with_reducible refine ex_drew ?_ | ((with_reducible refine ex_setCell ?_ ?_ _); rotate_left; (first | omega | (focus (simp; done)) | (focus (simp; omega)))) | ((with_reducible refine ex_chg ?_ _ ?_); rotate_left; (first | assumption | (exact Hid.out (by assumption)))) | exact ex_over)), by rw [hN.out] <;> rfl⟩
          · have hN := hid (show res = (0, 0, 11) by rw [← HRES.out, if_neg (by decide), if_pos hr])
            have h0 : 0 < K := by have := he'.2; omega
            obtain ⟨Q, hQ⟩ : ∃ Q, K - 1 = Q := ⟨_, rfl⟩
            have HF := hid (fun W => rfits_any m Q he'.1 (by omega) W)
            rw [decide_eq_true (show zrow m ≤ Q by have := he'.2; omega)] at HF
            have hk1 : (K : Int) - 1 = (Q : Int) := by omega
            have hk2 : (0 : Int) < (K : Int) := by omega
            clear hr he' hQ
            generalize zw K = W at *
            go_wp2_with (first | fail | (go_at_call 81; (with_reducible refine (HR.out _).mono ?_); rintro _ _ ⟨⟨e3, rfl⟩, rfl⟩) | (go_at_call 65; (with_reducible refine (HG.out _ (by repeat (first | with_reducible exact hb | with_reducible refine Sl.over ?_ _ | with_reducible refine Sl.alloc ?_ _ | with_reducible refine Sl.drew ?_ | exact hb))).mono ?_); rintro _ _ ⟨⟨e4, rfl⟩, rfl⟩) | (go_at_call 80; (with_reducible refine (HF.out _).mono ?_); rintro _ _ ⟨⟨e5, rfl⟩, rfl⟩))
            (try simp only [Exit.inBlock, Exit.then])
            refine bodyPost_ret (v := ?rv104) ?rh104 rfl ?rp104
            case rh104 => (simp only [results, show Tryd.f66.results = #[.tmp 4, .tmp 5, .tmp 6] from rfl]; go_simp; rfl)
            exact ⟨(by (try unfold Ov); repeat (first | with_reducible exact ex_over | with_reducible exact over_self _ | with_reducible refine ex_undrew ?_ | with_reducible refine ex_into ?_ _ | with_reducible refine ex_alloc ?_ _ | with_reducible refine ex_drew ?_ | ((with_reducible refine ex_setCell ?_ ?_ _); rotate_left; (first | omega | (focus (simp; done)) | (focus (simp; omega)))) | ((with_reducible refine ex_chg ?_ _ ?_); rotate_left; (first | assumption | (exact Hid.out (by assumption)))) | exact ex_over)), by rw [hN.out] <;> rfl⟩
        · have hN := hid (show res = (0, 0, 10) by rw [← HRES.out, if_pos he])
          have he' : ((e2 : Int) != 0) = true := by simp; exact he
          have he10 := HE1.out he
          subst he10
          generalize zw K = W at *
          go_wp2_with (first | fail | (go_at_call 81; (with_reducible refine (HR.out _).mono ?_); rintro _ _ ⟨⟨e3, rfl⟩, rfl⟩) | (go_at_call 65; (with_reducible refine (HG.out _ (by repeat (first | with_reducible exact hb | with_reducible refine Sl.over ?_ _ | with_reducible refine Sl.alloc ?_ _ | with_reducible refine Sl.drew ?_ | exact hb))).mono ?_); rintro _ _ ⟨⟨e4, rfl⟩, rfl⟩))
          (try simp only [Exit.inBlock, Exit.then])
          refine bodyPost_ret (v := ?rv105) ?rh105 rfl ?rp105
          case rh105 => (simp only [results, show Tryd.f66.results = #[.tmp 4, .tmp 5, .tmp 6] from rfl]; go_simp; rfl)
          exact ⟨(by (try unfold Ov); repeat (first | with_reducible exact ex_over | with_reducible exact over_self _ | with_reducible refine ex_undrew ?_ | with_reducible refine ex_into ?_ _ | with_reducible refine ex_alloc ?_ _ | with_reducible refine ex_drew ?_ | ((with_reducible refine ex_setCell ?_ ?_ _); rotate_left; (first | omega | (focus (simp; done)) | (focus (simp; omega)))) | ((with_reducible refine ex_chg ?_ _ ?_); rotate_left; (first | assumption | (exact Hid.out (by assumption)))) | exact ex_over)), by rw [hN.out] <;> rfl⟩

/-- The document's Get of small numbers, on sound bits. -/
theorem rzget_yes (l : List Bool) (hl : l.length ≤ 800000) (a : Option Addr) (cap : Nat) (at_ : Int) (hat : -9223372036854775808 ≤ at_ ∧ at_ ≤ 9223372036854775807) (w : World) (hb : SlB w a cap (pack l)) :
    Calls Tryd.prog 66 #[bv a (pack l).length cap l.length, .int .i64 at_] w (Ret w (rzgV (getZ l at_))) := by
  by_cases h : at_ < 0 ∨ l.length < at_
  · have : getZ l at_ = (0, 0, 10) := by unfold getZ; rw [if_pos h]
    rw [this]
    exact rzget_far l hl a cap at_ hat h w hb
  · obtain ⟨i, rfl⟩ : ∃ i : Nat, at_ = i := ⟨at_.toNat, by omega⟩
    exact rzget_in l hl a cap i (by omega) w hb
end Go.Proofs.YthljlajdkdgieaaDoor
