/- Walks: the document's value at a place. -/
import Derived.Test.YthljlajdkdgieaaDoorRefG
import Derived.Test.YthljlajdkdgieaaDoorRxP
import Derived.Test.YthljlajdkdgieaaDoorBitG
namespace Go.Proofs.YthljlajdkdgieaaDoor
set_option linter.unusedVariables false
set_option linter.unusedSimpArgs false
open Go.RowKit

abbrev xvV (p : Nat × Nat × Nat) : Value := .tuple #[.int .u64 (p.1 : Nat), .int .i64 (p.2.1 : Nat), .int .i64 (p.2.2 : Nat)]
/-- Reading that many bits at that place gives that. -/
abbrev RG (l : List Bool) (a : Option Addr) (cap : Nat) (at_ W v e : Int) : Prop := ∀ w, SlB w a cap (pack l) → Calls Tryd.prog 65 #[bv a (pack l).length cap l.length, .int .i64 at_, .int .i64 W] w (Ret w (.tuple #[.int .u64 v, .int .i64 e]))
theorem rg_of {l : List Bool} (hl : l.length ≤ 900000) (a : Option Addr) (cap : Nat) {at_ : Int} (hat : -9223372036854775808 ≤ at_ ∧ at_ ≤ 9223372036854775807) {W : Nat} (hW : W ≤ 64) {v e : Nat} (h : getN l at_ W = (v, e)) : RG l a cap at_ W v e := fun w hw => by
  have := rget_any l hl at_ hat W hW a cap w hw
  rw [h] at this; exact this

theorem rg_i {l : List Bool} (hl : l.length ≤ 900000) (a : Option Addr) (cap : Nat) {at_ : Int} (hat : -9223372036854775808 ≤ at_ ∧ at_ ≤ 9223372036854775807) {W : Nat} (hW : W ≤ 64) {v e : Nat} (h : getN l at_ W = (v, e)) (Wi : Int) (hi : Wi = W) : RG l a cap at_ Wi v e := by
  subst hi; exact rg_of hl a cap hat hW h
theorem getN_place {l : List Bool} {at_ : Int} {W v : Nat} (h : getN l at_ W = (v, 0)) : 0 ≤ at_ ∧ at_ + W ≤ l.length ∧ v < 2 ^ W := by
  have h1 := getN_ok (l := l) (at_ := at_) (width := W) (by rw [h])
  have h2 := getN_lt l at_ W
  rw [h] at h2
  exact ⟨h1.1, h1.2.1, h2⟩
theorem getN_e {l : List Bool} {at_ : Int} {W v e : Nat} (h : getN l at_ W = (v, e)) (he : e ≠ 0) : v = 0 ∧ e = 10 := by
  have := getN_bad (l := l) (at_ := at_) (width := W) (by rw [h]; exact he)
  rw [h] at this; simp at this; exact this
theorem getN_one {l : List Bool} {at_ : Int} {v : Nat} (h : getN l at_ 1 = (v, 0)) : v = 0 ∨ v = 1 := by
  have := (getN_place h).2.2; omega

set_option maxRecDepth 100000 in
set_option maxHeartbeats 4000000 in
theorem rval_any (l : List Bool) (hl : l.length ≤ 900000) (at_ : Int) (hat : 0 ≤ at_ ∧ at_ ≤ l.length) (s : Vl) (hs : s.wf) (hsd : soundV s = true) (a : Option Addr) (cap : Nat) (w : World) (hb : SlB w a cap (pack l)) :
    Calls Tryd.prog 62 #[bv a (pack l).length cap l.length, .int .i64 at_, s.v] w (Ret w (xvV (valueX l at_ s))) := by
  obtain ⟨hat1, hat2⟩ := hat
  have hsd := soundV_has hsd
  obtain ⟨has, prev, lead, width⟩ := s
  obtain ⟨hs1, hs2, hs3⟩ := hs
  simp only at hs1 hs2 hs3 hsd
  cases has
  · clear hsd
    obtain ⟨⟨v, e⟩, g1⟩ : ∃ p, getN l at_ 64 = p := ⟨_, rfl⟩
    have G1 := hid (rg_i hl a cap (by omega) (Nat.le_refl 64) g1 64 rfl)
    have HV := hid (show valueX l at_ ⟨false, prev, lead, width⟩ = (v, 64, e) by unfold valueX; simp [g1])
    have hv : v < 18446744073709551616 := by have := getN_lt l at_ 64; rw [g1] at this; exact this
    have he : e ≤ 10 := by rcases getN_err l at_ 64 with h | h <;> rw [g1] at h <;> simp at h <;> omega
    clear g1
    go_enter Tryd.func62, Tryd.ntmps62
    go_wp2_with (first | (go_at_call 65; (with_reducible refine (G1.out _ (by repeat (first | with_reducible exact hb | with_reducible refine Sl.over ?_ _ | with_reducible refine Sl.alloc ?_ _ | with_reducible refine Sl.drew ?_ | exact hb))).mono ?_); rintro _ _ ⟨⟨e1, rfl⟩, rfl⟩) | (go_at_call 65; (with_reducible refine (G2.out _ (by repeat (first | with_reducible exact hb | with_reducible refine Sl.over ?_ _ | with_reducible refine Sl.alloc ?_ _ | with_reducible refine Sl.drew ?_ | exact hb))).mono ?_); rintro _ _ ⟨⟨e2, rfl⟩, rfl⟩) | (go_at_call 65; (with_reducible refine (G3.out _ (by repeat (first | with_reducible exact hb | with_reducible refine Sl.over ?_ _ | with_reducible refine Sl.alloc ?_ _ | with_reducible refine Sl.drew ?_ | exact hb))).mono ?_); rintro _ _ ⟨⟨e3, rfl⟩, rfl⟩) | (go_at_call 65; (with_reducible refine (G4.out _ (by repeat (first | with_reducible exact hb | with_reducible refine Sl.over ?_ _ | with_reducible refine Sl.alloc ?_ _ | with_reducible refine Sl.drew ?_ | exact hb))).mono ?_); rintro _ _ ⟨⟨e4, rfl⟩, rfl⟩) | (go_at_call 65; (with_reducible refine (G5.out _ (by repeat (first | with_reducible exact hb | with_reducible refine Sl.over ?_ _ | with_reducible refine Sl.alloc ?_ _ | with_reducible refine Sl.drew ?_ | exact hb))).mono ?_); rintro _ _ ⟨⟨e5, rfl⟩, rfl⟩))
    (try simp only [Exit.inBlock, Exit.then])
    refine bodyPost_ret (v := ?rv46) ?rh46 rfl ?rp46
    case rh46 => (simp only [results, show Tryd.f62.results = #[.tmp 6, .tmp 7, .tmp 8] from rfl]; go_simp; rfl)
    refine ⟨(by (try unfold Ov); repeat (first | with_reducible exact ex_over | with_reducible exact over_self _ | with_reducible refine ex_undrew ?_ | with_reducible refine ex_into ?_ _ | with_reducible refine ex_alloc ?_ _ | with_reducible refine ex_drew ?_ | ((with_reducible refine ex_setCell ?_ ?_ _); rotate_left; (first | omega | (focus (simp; done)) | (focus (simp; omega)))) | ((with_reducible refine ex_chg ?_ _ ?_); rotate_left; (first | assumption | (exact Hid.out (by assumption)))) | exact ex_over)), ?_⟩
    rw [HV.out]; rfl
  · obtain ⟨hsd1, hsd2, _⟩ := hsd rfl
    clear hsd
    obtain ⟨⟨b1, e1⟩, g1⟩ : ∃ p, getN l at_ 1 = p := ⟨_, rfl⟩
    have e1c := getN_err l at_ 1
    rw [g1] at e1c
    simp only at e1c
    rcases e1c with rfl | rfl
    rotate_left
    · obtain ⟨rfl, _⟩ := getN_e g1 (by decide)
      have G1 := hid (rg_i hl a cap (by omega) (by decide : 1 ≤ 64) g1 1 rfl)
      have HV := hid (show valueX l at_ ⟨true, prev, lead, width⟩ = (prev, 1, 10) by unfold valueX; simp [g1])
      clear g1
      go_enter Tryd.func62, Tryd.ntmps62
      go_wp2_with (first | (go_at_call 65; (with_reducible refine (G1.out _ (by repeat (first | with_reducible exact hb | with_reducible refine Sl.over ?_ _ | with_reducible refine Sl.alloc ?_ _ | with_reducible refine Sl.drew ?_ | exact hb))).mono ?_); rintro _ _ ⟨⟨e1, rfl⟩, rfl⟩) | (go_at_call 65; (with_reducible refine (G2.out _ (by repeat (first | with_reducible exact hb | with_reducible refine Sl.over ?_ _ | with_reducible refine Sl.alloc ?_ _ | with_reducible refine Sl.drew ?_ | exact hb))).mono ?_); rintro _ _ ⟨⟨e2, rfl⟩, rfl⟩) | (go_at_call 65; (with_reducible refine (G3.out _ (by repeat (first | with_reducible exact hb | with_reducible refine Sl.over ?_ _ | with_reducible refine Sl.alloc ?_ _ | with_reducible refine Sl.drew ?_ | exact hb))).mono ?_); rintro _ _ ⟨⟨e3, rfl⟩, rfl⟩) | (go_at_call 65; (with_reducible refine (G4.out _ (by repeat (first | with_reducible exact hb | with_reducible refine Sl.over ?_ _ | with_reducible refine Sl.alloc ?_ _ | with_reducible refine Sl.drew ?_ | exact hb))).mono ?_); rintro _ _ ⟨⟨e4, rfl⟩, rfl⟩) | (go_at_call 65; (with_reducible refine (G5.out _ (by repeat (first | with_reducible exact hb | with_reducible refine Sl.over ?_ _ | with_reducible refine Sl.alloc ?_ _ | with_reducible refine Sl.drew ?_ | exact hb))).mono ?_); rintro _ _ ⟨⟨e5, rfl⟩, rfl⟩))
      (try simp only [Exit.inBlock, Exit.then])
      refine bodyPost_ret (v := ?rv47) ?rh47 rfl ?rp47
      case rh47 => (simp only [results, show Tryd.f62.results = #[.tmp 6, .tmp 7, .tmp 8] from rfl]; go_simp; rfl)
      refine ⟨(by (try unfold Ov); repeat (first | with_reducible exact ex_over | with_reducible exact over_self _ | with_reducible refine ex_undrew ?_ | with_reducible refine ex_into ?_ _ | with_reducible refine ex_alloc ?_ _ | with_reducible refine ex_drew ?_ | ((with_reducible refine ex_setCell ?_ ?_ _); rotate_left; (first | omega | (focus (simp; done)) | (focus (simp; omega)))) | ((with_reducible refine ex_chg ?_ _ ?_); rotate_left; (first | assumption | (exact Hid.out (by assumption)))) | exact ex_over)), ?_⟩
      rw [HV.out]; rfl
    rcases getN_one g1 with rfl | rfl
    · have G1 := hid (rg_i hl a cap (by omega) (by decide : 1 ≤ 64) g1 1 rfl)
      have HV := hid (show valueX l at_ ⟨true, prev, lead, width⟩ = (prev, 1, 0) by unfold valueX; simp [g1])
      clear g1
      go_enter Tryd.func62, Tryd.ntmps62
      go_wp2_with (first | (go_at_call 65; (with_reducible refine (G1.out _ (by repeat (first | with_reducible exact hb | with_reducible refine Sl.over ?_ _ | with_reducible refine Sl.alloc ?_ _ | with_reducible refine Sl.drew ?_ | exact hb))).mono ?_); rintro _ _ ⟨⟨e1, rfl⟩, rfl⟩) | (go_at_call 65; (with_reducible refine (G2.out _ (by repeat (first | with_reducible exact hb | with_reducible refine Sl.over ?_ _ | with_reducible refine Sl.alloc ?_ _ | with_reducible refine Sl.drew ?_ | exact hb))).mono ?_); rintro _ _ ⟨⟨e2, rfl⟩, rfl⟩) | (go_at_call 65; (with_reducible refine (G3.out _ (by repeat (first | with_reducible exact hb | with_reducible refine Sl.over ?_ _ | with_reducible refine Sl.alloc ?_ _ | with_reducible refine Sl.drew ?_ | exact hb))).mono ?_); rintro _ _ ⟨⟨e3, rfl⟩, rfl⟩) | (go_at_call 65; (with_reducible refine (G4.out _ (by repeat (first | with_reducible exact hb | with_reducible refine Sl.over ?_ _ | with_reducible refine Sl.alloc ?_ _ | with_reducible refine Sl.drew ?_ | exact hb))).mono ?_); rintro _ _ ⟨⟨e4, rfl⟩, rfl⟩) | (go_at_call 65; (with_reducible refine (G5.out _ (by repeat (first | with_reducible exact hb | with_reducible refine Sl.over ?_ _ | with_reducible refine Sl.alloc ?_ _ | with_reducible refine Sl.drew ?_ | exact hb))).mono ?_); rintro _ _ ⟨⟨e5, rfl⟩, rfl⟩))
      (try simp only [Exit.inBlock, Exit.then])
      refine bodyPost_ret (v := ?rv48) ?rh48 rfl ?rp48
      case rh48 => (simp only [results, show Tryd.f62.results = #[.tmp 6, .tmp 7, .tmp 8] from rfl]; go_simp; rfl)
      refine ⟨(by (try unfold Ov); repeat (first | with_reducible exact ex_over | with_reducible exact over_self _ | with_reducible refine ex_undrew ?_ | with_reducible refine ex_into ?_ _ | with_reducible refine ex_alloc ?_ _ | with_reducible refine ex_drew ?_ | ((with_reducible refine ex_setCell ?_ ?_ _); rotate_left; (first | omega | (focus (simp; done)) | (focus (simp; omega)))) | ((with_reducible refine ex_chg ?_ _ ?_); rotate_left; (first | assumption | (exact Hid.out (by assumption)))) | exact ex_over)), ?_⟩
      rw [HV.out]; rfl
    have G1 := hid (rg_i hl a cap (by omega) (by decide : 1 ≤ 64) g1 1 rfl)
    obtain ⟨_, hp1, _⟩ := getN_place g1
    obtain ⟨⟨b2, e2⟩, g2⟩ : ∃ p, getN l (at_ + 1) 1 = p := ⟨_, rfl⟩
    have e2c := getN_err l (at_ + 1) 1
    rw [g2] at e2c
    simp only at e2c
    rcases e2c with rfl | rfl
    rotate_left
    · obtain ⟨rfl, _⟩ := getN_e g2 (by decide)
      have G2 := hid (rg_i hl a cap (by omega) (by decide : 1 ≤ 64) g2 1 rfl)
      have HV := hid (show valueX l at_ ⟨true, prev, lead, width⟩ = (0, 0, 10) by unfold valueX; simp [g1, g2])
      clear g1 g2
      go_enter Tryd.func62, Tryd.ntmps62
      go_wp2_with (first | (go_at_call 65; (with_reducible refine (G1.out _ (by repeat (first | with_reducible exact hb | with_reducible refine Sl.over ?_ _ | with_reducible refine Sl.alloc ?_ _ | with_reducible refine Sl.drew ?_ | exact hb))).mono ?_); rintro _ _ ⟨⟨e1, rfl⟩, rfl⟩) | (go_at_call 65; (with_reducible refine (G2.out _ (by repeat (first | with_reducible exact hb | with_reducible refine Sl.over ?_ _ | with_reducible refine Sl.alloc ?_ _ | with_reducible refine Sl.drew ?_ | exact hb))).mono ?_); rintro _ _ ⟨⟨e2, rfl⟩, rfl⟩) | (go_at_call 65; (with_reducible refine (G3.out _ (by repeat (first | with_reducible exact hb | with_reducible refine Sl.over ?_ _ | with_reducible refine Sl.alloc ?_ _ | with_reducible refine Sl.drew ?_ | exact hb))).mono ?_); rintro _ _ ⟨⟨e3, rfl⟩, rfl⟩) | (go_at_call 65; (with_reducible refine (G4.out _ (by repeat (first | with_reducible exact hb | with_reducible refine Sl.over ?_ _ | with_reducible refine Sl.alloc ?_ _ | with_reducible refine Sl.drew ?_ | exact hb))).mono ?_); rintro _ _ ⟨⟨e4, rfl⟩, rfl⟩) | (go_at_call 65; (with_reducible refine (G5.out _ (by repeat (first | with_reducible exact hb | with_reducible refine Sl.over ?_ _ | with_reducible refine Sl.alloc ?_ _ | with_reducible refine Sl.drew ?_ | exact hb))).mono ?_); rintro _ _ ⟨⟨e5, rfl⟩, rfl⟩))
      (try simp only [Exit.inBlock, Exit.then])
      refine bodyPost_ret (v := ?rv49) ?rh49 rfl ?rp49
      case rh49 => (simp only [results, show Tryd.f62.results = #[.tmp 6, .tmp 7, .tmp 8] from rfl]; go_simp; rfl)
      refine ⟨(by (try unfold Ov); repeat (first | with_reducible exact ex_over | with_reducible exact over_self _ | with_reducible refine ex_undrew ?_ | with_reducible refine ex_into ?_ _ | with_reducible refine ex_alloc ?_ _ | with_reducible refine ex_drew ?_ | ((with_reducible refine ex_setCell ?_ ?_ _); rotate_left; (first | omega | (focus (simp; done)) | (focus (simp; omega)))) | ((with_reducible refine ex_chg ?_ _ ?_); rotate_left; (first | assumption | (exact Hid.out (by assumption)))) | exact ex_over)), ?_⟩
      rw [HV.out]; rfl
    have G2 := hid (rg_i hl a cap (by omega) (by decide : 1 ≤ 64) g2 1 rfl)
    obtain ⟨_, hp2, _⟩ := getN_place g2
    rcases getN_one g2 with rfl | rfl
    · obtain ⟨⟨d0, e3⟩, g3⟩ : ∃ p, getN l (at_ + 2) width = p := ⟨_, rfl⟩
      have e3c := getN_err l (at_ + 2) width
      rw [g3] at e3c
      simp only at e3c
      have G3 := hid (rg_i hl a cap (by omega) (by omega : width ≤ 64) g3 width rfl)
      rcases e3c with rfl | rfl
      rotate_left
      · obtain ⟨rfl, _⟩ := getN_e g3 (by decide)
        have HV := hid (show valueX l at_ ⟨true, prev, lead, width⟩ = (0, 0, 10) by unfold valueX; simp [g1, g2, g3])
        clear g1 g2 g3
        go_enter Tryd.func62, Tryd.ntmps62
        go_wp2_with (first | (go_at_call 65; (with_reducible refine (G1.out _ (by repeat (first | with_reducible exact hb | with_reducible refine Sl.over ?_ _ | with_reducible refine Sl.alloc ?_ _ | with_reducible refine Sl.drew ?_ | exact hb))).mono ?_); rintro _ _ ⟨⟨e1, rfl⟩, rfl⟩) | (go_at_call 65; (with_reducible refine (G2.out _ (by repeat (first | with_reducible exact hb | with_reducible refine Sl.over ?_ _ | with_reducible refine Sl.alloc ?_ _ | with_reducible refine Sl.drew ?_ | exact hb))).mono ?_); rintro _ _ ⟨⟨e2, rfl⟩, rfl⟩) | (go_at_call 65; (with_reducible refine (G3.out _ (by repeat (first | with_reducible exact hb | with_reducible refine Sl.over ?_ _ | with_reducible refine Sl.alloc ?_ _ | with_reducible refine Sl.drew ?_ | exact hb))).mono ?_); rintro _ _ ⟨⟨e3, rfl⟩, rfl⟩) | (go_at_call 65; (with_reducible refine (G4.out _ (by repeat (first | with_reducible exact hb | with_reducible refine Sl.over ?_ _ | with_reducible refine Sl.alloc ?_ _ | with_reducible refine Sl.drew ?_ | exact hb))).mono ?_); rintro _ _ ⟨⟨e4, rfl⟩, rfl⟩) | (go_at_call 65; (with_reducible refine (G5.out _ (by repeat (first | with_reducible exact hb | with_reducible refine Sl.over ?_ _ | with_reducible refine Sl.alloc ?_ _ | with_reducible refine Sl.drew ?_ | exact hb))).mono ?_); rintro _ _ ⟨⟨e5, rfl⟩, rfl⟩))
        (try simp only [Exit.inBlock, Exit.then])
        refine bodyPost_ret (v := ?rv50) ?rh50 rfl ?rp50
        case rh50 => (simp only [results, show Tryd.f62.results = #[.tmp 6, .tmp 7, .tmp 8] from rfl]; go_simp; rfl)
        refine ⟨(by (try unfold Ov); repeat (first | with_reducible exact ex_over | with_reducible exact over_self _ | with_reducible refine ex_undrew ?_ | with_reducible refine ex_into ?_ _ | with_reducible refine ex_alloc ?_ _ | with_reducible refine ex_drew ?_ | ((with_reducible refine ex_setCell ?_ ?_ _); rotate_left; (first | omega | (focus (simp; done)) | (focus (simp; omega)))) | ((with_reducible refine ex_chg ?_ _ ?_); rotate_left; (first | assumption | (exact Hid.out (by assumption)))) | exact ex_over)), ?_⟩
        rw [HV.out]; rfl
      · have HV := hid (show valueX l at_ ⟨true, prev, lead, width⟩ = (prev ^^^ (d0 <<< (64 - lead - width) % 18446744073709551616), 2 + width, 0) by unfold valueX; simp [g1, g2, g3])
        obtain ⟨_, _, hd0⟩ := getN_place g3
        clear g1 g2 g3
        have hw64 : width ≤ 64 := by omega
        have hd0' : d0 < 18446744073709551616 := Nat.lt_of_lt_of_le hd0 (by rw [show 18446744073709551616 = 2 ^ 64 from rfl]; exact Nat.pow_le_pow_right (by omega) hw64)
        have hsx := shx d0 (64 - lead - width)
        have hlx := shl_lt64 d0 (64 - lead - width)
        generalize d0 <<< (64 - lead - width) % 18446744073709551616 = d at *
        have hX := xor64 prev d hs1 hlx
        have hXl : prev ^^^ d < 18446744073709551616 := Nat.xor_lt_two_pow (n := 64) hs1 hlx
        clear hd0
        go_enter Tryd.func62, Tryd.ntmps62
        go_wp2_with (first | (go_at_call 65; (with_reducible refine (G1.out _ (by repeat (first | with_reducible exact hb | with_reducible refine Sl.over ?_ _ | with_reducible refine Sl.alloc ?_ _ | with_reducible refine Sl.drew ?_ | exact hb))).mono ?_); rintro _ _ ⟨⟨e1, rfl⟩, rfl⟩) | (go_at_call 65; (with_reducible refine (G2.out _ (by repeat (first | with_reducible exact hb | with_reducible refine Sl.over ?_ _ | with_reducible refine Sl.alloc ?_ _ | with_reducible refine Sl.drew ?_ | exact hb))).mono ?_); rintro _ _ ⟨⟨e2, rfl⟩, rfl⟩) | (go_at_call 65; (with_reducible refine (G3.out _ (by repeat (first | with_reducible exact hb | with_reducible refine Sl.over ?_ _ | with_reducible refine Sl.alloc ?_ _ | with_reducible refine Sl.drew ?_ | exact hb))).mono ?_); rintro _ _ ⟨⟨e3, rfl⟩, rfl⟩) | (go_at_call 65; (with_reducible refine (G4.out _ (by repeat (first | with_reducible exact hb | with_reducible refine Sl.over ?_ _ | with_reducible refine Sl.alloc ?_ _ | with_reducible refine Sl.drew ?_ | exact hb))).mono ?_); rintro _ _ ⟨⟨e4, rfl⟩, rfl⟩) | (go_at_call 65; (with_reducible refine (G5.out _ (by repeat (first | with_reducible exact hb | with_reducible refine Sl.over ?_ _ | with_reducible refine Sl.alloc ?_ _ | with_reducible refine Sl.drew ?_ | exact hb))).mono ?_); rintro _ _ ⟨⟨e5, rfl⟩, rfl⟩))
        refine M2.wp_region_mix [] 21 (by kernel_rfl) (by kernel_rfl) (by decide) ?_
        simp only [List.take_succ_cons, List.take_zero, List.drop_succ_cons, List.drop_zero]
        with_reducible refine M2.mixL_quiet 21 (by kernel_rfl) ?_
        simp only [List.take_succ_cons, List.take_zero, List.drop_succ_cons, List.drop_zero]
        repeat (go_big_quiet_step (fail))
        with_reducible refine wpQuiet_nil ?_
        with_reducible refine M2.mixL_nil ?_
        with_reducible refine M2.mixL_nil ?_
        go_wp2
        (try simp only [Exit.inBlock, Exit.then])
        refine bodyPost_ret (v := ?rv51) ?rh51 rfl ?rp51
        case rh51 => (simp only [results, show Tryd.f62.results = #[.tmp 6, .tmp 7, .tmp 8] from rfl]; go_simp; rfl)
        refine ⟨(by (try unfold Ov); repeat (first | with_reducible exact ex_over | with_reducible exact over_self _ | with_reducible refine ex_undrew ?_ | with_reducible refine ex_into ?_ _ | with_reducible refine ex_alloc ?_ _ | with_reducible refine ex_drew ?_ | ((with_reducible refine ex_setCell ?_ ?_ _); rotate_left; (first | omega | (focus (simp; done)) | (focus (simp; omega)))) | ((with_reducible refine ex_chg ?_ _ ?_); rotate_left; (first | assumption | (exact Hid.out (by assumption)))) | exact ex_over)), ?_⟩
        rw [HV.out]; rfl
    obtain ⟨⟨L, e3⟩, g3⟩ : ∃ p, getN l (at_ + 2) 5 = p := ⟨_, rfl⟩
    have e3c := getN_err l (at_ + 2) 5
    rw [g3] at e3c
    simp only at e3c
    have G3 := hid (rg_i hl a cap (by omega) (by decide : 5 ≤ 64) g3 5 rfl)
    rcases e3c with rfl | rfl
    rotate_left
    · obtain ⟨rfl, _⟩ := getN_e g3 (by decide)
      have HV := hid (show valueX l at_ ⟨true, prev, lead, width⟩ = (0, 0, 10) by unfold valueX; simp [g1, g2, g3])
      clear g1 g2 g3
      go_enter Tryd.func62, Tryd.ntmps62
      go_wp2_with (first | (go_at_call 65; (with_reducible refine (G1.out _ (by repeat (first | with_reducible exact hb | with_reducible refine Sl.over ?_ _ | with_reducible refine Sl.alloc ?_ _ | with_reducible refine Sl.drew ?_ | exact hb))).mono ?_); rintro _ _ ⟨⟨e1, rfl⟩, rfl⟩) | (go_at_call 65; (with_reducible refine (G2.out _ (by repeat (first | with_reducible exact hb | with_reducible refine Sl.over ?_ _ | with_reducible refine Sl.alloc ?_ _ | with_reducible refine Sl.drew ?_ | exact hb))).mono ?_); rintro _ _ ⟨⟨e2, rfl⟩, rfl⟩) | (go_at_call 65; (with_reducible refine (G3.out _ (by repeat (first | with_reducible exact hb | with_reducible refine Sl.over ?_ _ | with_reducible refine Sl.alloc ?_ _ | with_reducible refine Sl.drew ?_ | exact hb))).mono ?_); rintro _ _ ⟨⟨e3, rfl⟩, rfl⟩) | (go_at_call 65; (with_reducible refine (G4.out _ (by repeat (first | with_reducible exact hb | with_reducible refine Sl.over ?_ _ | with_reducible refine Sl.alloc ?_ _ | with_reducible refine Sl.drew ?_ | exact hb))).mono ?_); rintro _ _ ⟨⟨e4, rfl⟩, rfl⟩) | (go_at_call 65; (with_reducible refine (G5.out _ (by repeat (first | with_reducible exact hb | with_reducible refine Sl.over ?_ _ | with_reducible refine Sl.alloc ?_ _ | with_reducible refine Sl.drew ?_ | exact hb))).mono ?_); rintro _ _ ⟨⟨e5, rfl⟩, rfl⟩))
      (try simp only [Exit.inBlock, Exit.then])
      refine bodyPost_ret (v := ?rv52) ?rh52 rfl ?rp52
      case rh52 => (simp only [results, show Tryd.f62.results = #[.tmp 6, .tmp 7, .tmp 8] from rfl]; go_simp; rfl)
      refine ⟨(by (try unfold Ov); repeat (first | with_reducible exact ex_over | with_reducible exact over_self _ | with_reducible refine ex_undrew ?_ | with_reducible refine ex_into ?_ _ | with_reducible refine ex_alloc ?_ _ | with_reducible refine ex_drew ?_ | ((with_reducible refine ex_setCell ?_ ?_ _); rotate_left; (first | omega | (focus (simp; done)) | (focus (simp; omega)))) | ((with_reducible refine ex_chg ?_ _ ?_); rotate_left; (first | assumption | (exact Hid.out (by assumption)))) | exact ex_over)), ?_⟩
      rw [HV.out]; rfl
    obtain ⟨_, hp3, hL⟩ := getN_place g3
    obtain ⟨⟨S, e4⟩, g4⟩ : ∃ p, getN l (at_ + 7) 6 = p := ⟨_, rfl⟩
    have e4c := getN_err l (at_ + 7) 6
    rw [g4] at e4c
    simp only at e4c
    have G4 := hid (rg_i hl a cap (by omega) (by decide : 6 ≤ 64) g4 6 rfl)
    rcases e4c with rfl | rfl
    rotate_left
    · obtain ⟨rfl, _⟩ := getN_e g4 (by decide)
      have HV := hid (show valueX l at_ ⟨true, prev, lead, width⟩ = (0, 0, 10) by unfold valueX; simp [g1, g2, g3, g4])
      clear g1 g2 g3 g4
      go_enter Tryd.func62, Tryd.ntmps62
      go_wp2_with (first | (go_at_call 65; (with_reducible refine (G1.out _ (by repeat (first | with_reducible exact hb | with_reducible refine Sl.over ?_ _ | with_reducible refine Sl.alloc ?_ _ | with_reducible refine Sl.drew ?_ | exact hb))).mono ?_); rintro _ _ ⟨⟨e1, rfl⟩, rfl⟩) | (go_at_call 65; (with_reducible refine (G2.out _ (by repeat (first | with_reducible exact hb | with_reducible refine Sl.over ?_ _ | with_reducible refine Sl.alloc ?_ _ | with_reducible refine Sl.drew ?_ | exact hb))).mono ?_); rintro _ _ ⟨⟨e2, rfl⟩, rfl⟩) | (go_at_call 65; (with_reducible refine (G3.out _ (by repeat (first | with_reducible exact hb | with_reducible refine Sl.over ?_ _ | with_reducible refine Sl.alloc ?_ _ | with_reducible refine Sl.drew ?_ | exact hb))).mono ?_); rintro _ _ ⟨⟨e3, rfl⟩, rfl⟩) | (go_at_call 65; (with_reducible refine (G4.out _ (by repeat (first | with_reducible exact hb | with_reducible refine Sl.over ?_ _ | with_reducible refine Sl.alloc ?_ _ | with_reducible refine Sl.drew ?_ | exact hb))).mono ?_); rintro _ _ ⟨⟨e4, rfl⟩, rfl⟩) | (go_at_call 65; (with_reducible refine (G5.out _ (by repeat (first | with_reducible exact hb | with_reducible refine Sl.over ?_ _ | with_reducible refine Sl.alloc ?_ _ | with_reducible refine Sl.drew ?_ | exact hb))).mono ?_); rintro _ _ ⟨⟨e5, rfl⟩, rfl⟩))
      (try simp only [Exit.inBlock, Exit.then])
      refine bodyPost_ret (v := ?rv53) ?rh53 rfl ?rp53
      case rh53 => (simp only [results, show Tryd.f62.results = #[.tmp 6, .tmp 7, .tmp 8] from rfl]; go_simp; rfl)
      refine ⟨(by (try unfold Ov); repeat (first | with_reducible exact ex_over | with_reducible exact over_self _ | with_reducible refine ex_undrew ?_ | with_reducible refine ex_into ?_ _ | with_reducible refine ex_alloc ?_ _ | with_reducible refine ex_drew ?_ | ((with_reducible refine ex_setCell ?_ ?_ _); rotate_left; (first | omega | (focus (simp; done)) | (focus (simp; omega)))) | ((with_reducible refine ex_chg ?_ _ ?_); rotate_left; (first | assumption | (exact Hid.out (by assumption)))) | exact ex_over)), ?_⟩
      rw [HV.out]; rfl
    obtain ⟨_, hp4, hS⟩ := getN_place g4
    by_cases h64 : 64 < L + (S + 1)
    · have h64' : (64 : Int) < (L : Int) + ((S : Int) + 1) := by omega
      have HV := hid (show valueX l at_ ⟨true, prev, lead, width⟩ = (0, 0, 30) by unfold valueX; simp only [g1, g2, g3, g4]; simp [h64])
      clear g1 g2 g3 g4 h64
      go_enter Tryd.func62, Tryd.ntmps62
      go_wp2_with (first | (go_at_call 65; (with_reducible refine (G1.out _ (by repeat (first | with_reducible exact hb | with_reducible refine Sl.over ?_ _ | with_reducible refine Sl.alloc ?_ _ | with_reducible refine Sl.drew ?_ | exact hb))).mono ?_); rintro _ _ ⟨⟨e1, rfl⟩, rfl⟩) | (go_at_call 65; (with_reducible refine (G2.out _ (by repeat (first | with_reducible exact hb | with_reducible refine Sl.over ?_ _ | with_reducible refine Sl.alloc ?_ _ | with_reducible refine Sl.drew ?_ | exact hb))).mono ?_); rintro _ _ ⟨⟨e2, rfl⟩, rfl⟩) | (go_at_call 65; (with_reducible refine (G3.out _ (by repeat (first | with_reducible exact hb | with_reducible refine Sl.over ?_ _ | with_reducible refine Sl.alloc ?_ _ | with_reducible refine Sl.drew ?_ | exact hb))).mono ?_); rintro _ _ ⟨⟨e3, rfl⟩, rfl⟩) | (go_at_call 65; (with_reducible refine (G4.out _ (by repeat (first | with_reducible exact hb | with_reducible refine Sl.over ?_ _ | with_reducible refine Sl.alloc ?_ _ | with_reducible refine Sl.drew ?_ | exact hb))).mono ?_); rintro _ _ ⟨⟨e4, rfl⟩, rfl⟩) | (go_at_call 65; (with_reducible refine (G5.out _ (by repeat (first | with_reducible exact hb | with_reducible refine Sl.over ?_ _ | with_reducible refine Sl.alloc ?_ _ | with_reducible refine Sl.drew ?_ | exact hb))).mono ?_); rintro _ _ ⟨⟨e5, rfl⟩, rfl⟩))
      (try simp only [Exit.inBlock, Exit.then])
      refine bodyPost_ret (v := ?rv54) ?rh54 rfl ?rp54
      case rh54 => (simp only [results, show Tryd.f62.results = #[.tmp 6, .tmp 7, .tmp 8] from rfl]; go_simp; rfl)
      refine ⟨(by (try unfold Ov); repeat (first | with_reducible exact ex_over | with_reducible exact over_self _ | with_reducible refine ex_undrew ?_ | with_reducible refine ex_into ?_ _ | with_reducible refine ex_alloc ?_ _ | with_reducible refine ex_drew ?_ | ((with_reducible refine ex_setCell ?_ ?_ _); rotate_left; (first | omega | (focus (simp; done)) | (focus (simp; omega)))) | ((with_reducible refine ex_chg ?_ _ ?_); rotate_left; (first | assumption | (exact Hid.out (by assumption)))) | exact ex_over)), ?_⟩
      rw [HV.out]; rfl
    have h64' : (L : Int) + ((S : Int) + 1) ≤ 64 := by omega
    obtain ⟨⟨d0, e5⟩, g5⟩ : ∃ p, getN l (at_ + 13) (S + 1) = p := ⟨_, rfl⟩
    have e5c := getN_err l (at_ + 13) (S + 1)
    rw [g5] at e5c
    simp only at e5c
    have G5 := hid (rg_i hl a cap (by omega) (by omega : S + 1 ≤ 64) g5 ((S : Int) + 1) (by omega))
    rcases e5c with rfl | rfl
    rotate_left
    · obtain ⟨rfl, _⟩ := getN_e g5 (by decide)
      have HV := hid (show valueX l at_ ⟨true, prev, lead, width⟩ = (0, 0, 10) by unfold valueX; simp only [g1, g2, g3, g4, g5]; simp [h64])
      clear g1 g2 g3 g4 g5 h64
      go_enter Tryd.func62, Tryd.ntmps62
      go_wp2_with (first | (go_at_call 65; (with_reducible refine (G1.out _ (by repeat (first | with_reducible exact hb | with_reducible refine Sl.over ?_ _ | with_reducible refine Sl.alloc ?_ _ | with_reducible refine Sl.drew ?_ | exact hb))).mono ?_); rintro _ _ ⟨⟨e1, rfl⟩, rfl⟩) | (go_at_call 65; (with_reducible refine (G2.out _ (by repeat (first | with_reducible exact hb | with_reducible refine Sl.over ?_ _ | with_reducible refine Sl.alloc ?_ _ | with_reducible refine Sl.drew ?_ | exact hb))).mono ?_); rintro _ _ ⟨⟨e2, rfl⟩, rfl⟩) | (go_at_call 65; (with_reducible refine (G3.out _ (by repeat (first | with_reducible exact hb | with_reducible refine Sl.over ?_ _ | with_reducible refine Sl.alloc ?_ _ | with_reducible refine Sl.drew ?_ | exact hb))).mono ?_); rintro _ _ ⟨⟨e3, rfl⟩, rfl⟩) | (go_at_call 65; (with_reducible refine (G4.out _ (by repeat (first | with_reducible exact hb | with_reducible refine Sl.over ?_ _ | with_reducible refine Sl.alloc ?_ _ | with_reducible refine Sl.drew ?_ | exact hb))).mono ?_); rintro _ _ ⟨⟨e4, rfl⟩, rfl⟩) | (go_at_call 65; (with_reducible refine (G5.out _ (by repeat (first | with_reducible exact hb | with_reducible refine Sl.over ?_ _ | with_reducible refine Sl.alloc ?_ _ | with_reducible refine Sl.drew ?_ | exact hb))).mono ?_); rintro _ _ ⟨⟨e5, rfl⟩, rfl⟩))
      (try simp only [Exit.inBlock, Exit.then])
      refine bodyPost_ret (v := ?rv55) ?rh55 rfl ?rp55
      case rh55 => (simp only [results, show Tryd.f62.results = #[.tmp 6, .tmp 7, .tmp 8] from rfl]; go_simp; rfl)
      refine ⟨(by (try unfold Ov); repeat (first | with_reducible exact ex_over | with_reducible exact over_self _ | with_reducible refine ex_undrew ?_ | with_reducible refine ex_into ?_ _ | with_reducible refine ex_alloc ?_ _ | with_reducible refine ex_drew ?_ | ((with_reducible refine ex_setCell ?_ ?_ _); rotate_left; (first | omega | (focus (simp; done)) | (focus (simp; omega)))) | ((with_reducible refine ex_chg ?_ _ ?_); rotate_left; (first | assumption | (exact Hid.out (by assumption)))) | exact ex_over)), ?_⟩
      rw [HV.out]; rfl
    · have HV := hid (show valueX l at_ ⟨true, prev, lead, width⟩ = (prev ^^^ (d0 <<< (64 - L - (S + 1)) % 18446744073709551616), 13 + (S + 1), 0) by unfold valueX; simp only [g1, g2, g3, g4, g5]; simp [h64])
      obtain ⟨_, _, hd0⟩ := getN_place g5
      clear g1 g2 g3 g4 g5 h64
      have hd0' : d0 < 18446744073709551616 := Nat.lt_of_lt_of_le hd0 (by rw [show 18446744073709551616 = 2 ^ 64 from rfl]; exact Nat.pow_le_pow_right (by omega) (by omega))
      have hsx := shx d0 (64 - L - (S + 1))
      have hlx := shl_lt64 d0 (64 - L - (S + 1))
      generalize d0 <<< (64 - L - (S + 1)) % 18446744073709551616 = d at *
      have hX := xor64 prev d hs1 hlx
      have hXl : prev ^^^ d < 18446744073709551616 := Nat.xor_lt_two_pow (n := 64) hs1 hlx
      clear hd0
      go_enter Tryd.func62, Tryd.ntmps62
      go_wp2_with (first | (go_at_call 65; (with_reducible refine (G1.out _ (by repeat (first | with_reducible exact hb | with_reducible refine Sl.over ?_ _ | with_reducible refine Sl.alloc ?_ _ | with_reducible refine Sl.drew ?_ | exact hb))).mono ?_); rintro _ _ ⟨⟨e1, rfl⟩, rfl⟩) | (go_at_call 65; (with_reducible refine (G2.out _ (by repeat (first | with_reducible exact hb | with_reducible refine Sl.over ?_ _ | with_reducible refine Sl.alloc ?_ _ | with_reducible refine Sl.drew ?_ | exact hb))).mono ?_); rintro _ _ ⟨⟨e2, rfl⟩, rfl⟩) | (go_at_call 65; (with_reducible refine (G3.out _ (by repeat (first | with_reducible exact hb | with_reducible refine Sl.over ?_ _ | with_reducible refine Sl.alloc ?_ _ | with_reducible refine Sl.drew ?_ | exact hb))).mono ?_); rintro _ _ ⟨⟨e3, rfl⟩, rfl⟩) | (go_at_call 65; (with_reducible refine (G4.out _ (by repeat (first | with_reducible exact hb | with_reducible refine Sl.over ?_ _ | with_reducible refine Sl.alloc ?_ _ | with_reducible refine Sl.drew ?_ | exact hb))).mono ?_); rintro _ _ ⟨⟨e4, rfl⟩, rfl⟩) | (go_at_call 65; (with_reducible refine (G5.out _ (by repeat (first | with_reducible exact hb | with_reducible refine Sl.over ?_ _ | with_reducible refine Sl.alloc ?_ _ | with_reducible refine Sl.drew ?_ | exact hb))).mono ?_); rintro _ _ ⟨⟨e5, rfl⟩, rfl⟩))
      (try simp only [Exit.inBlock, Exit.then])
      refine bodyPost_ret (v := ?rv56) ?rh56 rfl ?rp56
      case rh56 => (simp only [results, show Tryd.f62.results = #[.tmp 6, .tmp 7, .tmp 8] from rfl]; go_simp; rfl)
      refine ⟨(by (try unfold Ov); repeat (first | with_reducible exact ex_over | with_reducible exact over_self _ | with_reducible refine ex_undrew ?_ | with_reducible refine ex_into ?_ _ | with_reducible refine ex_alloc ?_ _ | with_reducible refine ex_drew ?_ | ((with_reducible refine ex_setCell ?_ ?_ _); rotate_left; (first | omega | (focus (simp; done)) | (focus (simp; omega)))) | ((with_reducible refine ex_chg ?_ _ ?_); rotate_left; (first | assumption | (exact Hid.out (by assumption)))) | exact ex_over)), ?_⟩
      rw [HV.out]; rfl
end Go.Proofs.YthljlajdkdgieaaDoor
