/- Walks: xor.wrong, xor.write. -/
import Derived.Test.YthljlajdkdgieaaDoorXorW
import Derived.Test.YthljlajdkdgieaaDoorXorQ
namespace Go.Proofs.YthljlajdkdgieaaDoor
set_option linter.unusedVariables false
set_option linter.unusedSimpArgs false
open Go.RowKit

/-- A number of so many bits. -/
structure Pt where
  v : Nat
  width : Nat
  deriving Inhabited
def Pt.cs (p : Pt) : List Value := [.int .u64 (p.v : Nat), .int .i64 (p.width : Nat)]
theorem Pt.cs_len (p : Pt) : p.cs.length = 2 := rfl
abbrev SlPt (w : World) (a : Option Addr) (cap : Nat) (xs : List Pt) : Prop := Sl 2 Pt.cs w a cap xs
def ptBits (ps : List Pt) : List Bool := ps.flatMap fun p => num p.v p.width

def wparts (s : Vl) (v : Nat) : List Pt :=
  if s.has then
    if v ^^^ s.prev = 0 then [⟨0, 1⟩]
    else if inBand s.lead s.width (v ^^^ s.prev) then [⟨2, 2⟩, ⟨(v ^^^ s.prev) >>> (64 - s.lead - s.width), s.width⟩]
    else [⟨3, 2⟩, ⟨aLead (v ^^^ s.prev), 5⟩, ⟨aSize (v ^^^ s.prev) - 1, 6⟩, ⟨(v ^^^ s.prev) >>> tz (v ^^^ s.prev), aSize (v ^^^ s.prev)⟩]
  else [⟨v, 64⟩]
theorem wparts_bits (s : Vl) (v : Nat) : ptBits (wparts s v) = (written s v).1 := by
  unfold wparts written ptBits
  split
  · split
    · rfl
    · split
      · simp only [List.flatMap_cons, List.flatMap_nil, List.append_nil]; rfl
      · simp only [List.flatMap_cons, List.flatMap_nil, List.append_nil, List.append_assoc]; rfl
  · simp
theorem wparts_ok {s : Vl} {v : Nat} (hs : soundV s = true) (hw : s.wf) (hv : v < 18446744073709551616) : ∀ p ∈ wparts s v, p.v < 18446744073709551616 ∧ p.width ≤ 64 := by
  intro p hp
  have hd : v ^^^ s.prev < 18446744073709551616 := Nat.xor_lt_two_pow (n := 64) hv hw.1
  unfold wparts at hp
  cases hh : s.has
  · rw [hh] at hp; simp at hp; subst hp; exact ⟨hv, by simp⟩
  · have h := soundV_has hs hh
    rw [hh] at hp
    simp only [if_true] at hp
    split at hp
    · simp at hp; subst hp; simp
    · rename_i h0
      have := around_le hd h0
      split at hp
      · simp at hp; rcases hp with rfl | rfl
        · simp
        · exact ⟨shr_lt hd, by simp; omega⟩
      · simp at hp; rcases hp with rfl | rfl | rfl | rfl
        · simp
        · simp; omega
        · simp; omega
        · exact ⟨shr_lt hd, by simp; omega⟩

def wrongX (snd sv : Bool) : Nat := if snd then if sv then 0 else 30 else 11
set_option maxHeartbeats 1000000 in
theorem xwrong_any (bs : List Nat) (hbs : ∀ b ∈ bs, b < 256) (hl : bs.length ≤ 1000000) (N : Int) (hN : -9223372036854775808 ≤ N ∧ N ≤ 9223372036854775807) (a : Option Addr) (cap : Nat) (s : Vl) (hs : s.wf) (w : World) (hb : SlB w a cap bs) :
    Calls Tryd.prog 43 #[bv a bs.length cap N, s.v] w (Ret w (.int .u16 (wrongX (soundB bs N) (soundV s) : Nat))) := by
  have H1 := hid (fun W hW => sound_any bs hbs hl N hN a cap W hW)
  have H2 := hid (fun W => xsound_any s hs W)
  cases g1 : soundB bs N
  · rw [g1] at H1
    go_enter Tryd.func43, Tryd.ntmps43
    go_wp2_with (first | (go_at_call 37; (with_reducible refine (H1.out _ (by repeat (first | with_reducible exact hb | with_reducible refine Sl.over ?_ _ | with_reducible refine Sl.alloc ?_ _ | with_reducible refine Sl.drew ?_ | exact hb))).mono ?_); rintro _ _ ⟨⟨e1, rfl⟩, rfl⟩) | (go_at_call 19; (with_reducible refine (H2.out _).mono ?_); rintro _ _ ⟨⟨e2, rfl⟩, rfl⟩))
    go_ret
    exact ⟨(by (try unfold Ov); repeat (first | with_reducible exact ex_over | with_reducible exact over_self _ | with_reducible refine ex_undrew ?_ | with_reducible refine ex_into ?_ _ | with_reducible refine ex_alloc ?_ _ | with_reducible refine ex_drew ?_ | ((with_reducible refine ex_setCell ?_ ?_ _); rotate_left; (first | omega | (focus (simp; done)) | (focus (simp; omega)))) | ((with_reducible refine ex_chg ?_ _ ?_); rotate_left; (first | assumption | (exact Hid.out (by assumption)))) | exact ex_over)), rfl⟩
  · rw [g1] at H1
    cases g2 : soundV s
    · rw [g2] at H2
      go_enter Tryd.func43, Tryd.ntmps43
      go_wp2_with (first | (go_at_call 37; (with_reducible refine (H1.out _ (by repeat (first | with_reducible exact hb | with_reducible refine Sl.over ?_ _ | with_reducible refine Sl.alloc ?_ _ | with_reducible refine Sl.drew ?_ | exact hb))).mono ?_); rintro _ _ ⟨⟨e1, rfl⟩, rfl⟩) | (go_at_call 19; (with_reducible refine (H2.out _).mono ?_); rintro _ _ ⟨⟨e2, rfl⟩, rfl⟩))
      go_ret
      exact ⟨(by (try unfold Ov); repeat (first | with_reducible exact ex_over | with_reducible exact over_self _ | with_reducible refine ex_undrew ?_ | with_reducible refine ex_into ?_ _ | with_reducible refine ex_alloc ?_ _ | with_reducible refine ex_drew ?_ | ((with_reducible refine ex_setCell ?_ ?_ _); rotate_left; (first | omega | (focus (simp; done)) | (focus (simp; omega)))) | ((with_reducible refine ex_chg ?_ _ ?_); rotate_left; (first | assumption | (exact Hid.out (by assumption)))) | exact ex_over)), rfl⟩
    · rw [g2] at H2
      go_enter Tryd.func43, Tryd.ntmps43
      go_wp2_with (first | (go_at_call 37; (with_reducible refine (H1.out _ (by repeat (first | with_reducible exact hb | with_reducible refine Sl.over ?_ _ | with_reducible refine Sl.alloc ?_ _ | with_reducible refine Sl.drew ?_ | exact hb))).mono ?_); rintro _ _ ⟨⟨e1, rfl⟩, rfl⟩) | (go_at_call 19; (with_reducible refine (H2.out _).mono ?_); rintro _ _ ⟨⟨e2, rfl⟩, rfl⟩))
      go_ret
      exact ⟨(by (try unfold Ov); repeat (first | with_reducible exact ex_over | with_reducible exact over_self _ | with_reducible refine ex_undrew ?_ | with_reducible refine ex_into ?_ _ | with_reducible refine ex_alloc ?_ _ | with_reducible refine ex_drew ?_ | ((with_reducible refine ex_setCell ?_ ?_ _); rotate_left; (first | omega | (focus (simp; done)) | (focus (simp; omega)))) | ((with_reducible refine ex_chg ?_ _ ?_); rotate_left; (first | assumption | (exact Hid.out (by assumption)))) | exact ex_over)), rfl⟩

/-- Parts in new memory, and what is known then. -/
def WrtPost (w : World) (ps : List Pt) (t : Vl) (en : Ending) (w' : World) : Prop := ∃ a c, en = .returned (.tuple #[.slice a ps.length c, t.v]) ∧ (∃ e, w' = over w e) ∧ SlPt w' a c ps ∧ ∀ ad, a = some ad → w.heap.size ≤ ad.block

set_option maxRecDepth 100000 in
set_option maxHeartbeats 2000000 in
theorem write_new (s : Vl) (hs : s.wf) (hh : s.has = false) (v : Nat) (hv : v < 18446744073709551616) (w : World) :
    Calls Tryd.prog 44 #[s.v, .int .u64 (v : Nat)] w (WrtPost w (wparts s v) (written s v).2) := by
  obtain ⟨has, prev, lead, width⟩ := s
  simp only at hh
  subst hh
  obtain ⟨h1, h2, h3⟩ := hs
  simp only at h1 h2 h3
  rw [show wparts ⟨false, prev, lead, width⟩ v = [⟨v, 64⟩] from rfl, show (written ⟨false, prev, lead, width⟩ v).2 = ⟨true, v, 0, 0⟩ from rfl]
  go_enter Tryd.func44, Tryd.ntmps44
  go_wp2
  (try simp only [Exit.inBlock, Exit.then])
  refine bodyPost_ret (v := ?rv6) ?rh6 rfl ?rp6
  case rh6 => (simp only [results, show Tryd.f44.results = #[.tmp 4, .cell 5 24] from rfl]; go_simp; rfl)
  exact ⟨_, _, rfl, (by (try unfold Ov); repeat (first | with_reducible exact ex_over | with_reducible exact over_self _ | with_reducible refine ex_undrew ?_ | with_reducible refine ex_into ?_ _ | with_reducible refine ex_alloc ?_ _ | with_reducible refine ex_drew ?_ | ((with_reducible refine ex_setCell ?_ ?_ _); rotate_left; (first | omega | (focus (simp; done)) | (focus (simp; omega)))) | ((with_reducible refine ex_chg ?_ _ ?_); rotate_left; (first | assumption | (exact Hid.out (by assumption)))) | exact ex_over)), (by (repeat with_reducible refine Sl.drew ?_); refine Sl.lit_as (xs :=  [⟨v, 64⟩]) Pt.cs_len ?_ ?_ ?_ ?_ <;> first | rfl | (simp; done) | (simp [maxLen]; done) | (simp; omega)), (by rintro _ ⟨⟩; simp; try omega)⟩

set_option maxRecDepth 100000 in
set_option maxHeartbeats 2000000 in
theorem write_same (s : Vl) (hs : s.wf) (hh : s.has = true) (hl : s.lead + s.width ≤ 64) (v : Nat) (hv : v < 18446744073709551616) (h0 : v ^^^ s.prev = 0) (w : World) :
    Calls Tryd.prog 44 #[s.v, .int .u64 (v : Nat)] w (WrtPost w (wparts s v) (written s v).2) := by
  obtain ⟨has, prev, lead, width⟩ := s
  simp only at hh
  subst hh
  obtain ⟨h1, h2, h3⟩ := hs
  simp only at h1 h2 h3 hl ⊢
  have hX := xor64 v prev hv h1
  have hd : v ^^^ prev < 18446744073709551616 := Nat.xor_lt_two_pow (n := 64) hv h1
  simp only at h0
  rw [show wparts ⟨true, prev, lead, width⟩ v = [⟨0, 1⟩] by simp [wparts, h0], show (written ⟨true, prev, lead, width⟩ v).2 = ⟨true, v, lead, width⟩ by simp [written, h0]]
  rw [h0] at hX
  have HO := hid (fun W => of_any ⟨true, v, lead, width⟩ ⟨hv, h2, h3⟩ W)
  clear h0 hd
  go_enter Tryd.func44, Tryd.ntmps44
  go_wp2_with (go_at_call 59; (with_reducible refine (HO.out _).mono ?_); rintro _ _ ⟨⟨e1, rfl⟩, rfl⟩)
  refine M2.wp_region_mix [1, 4] 4 (by kernel_rfl) (by kernel_rfl) (by decide) ?_
  simp only [List.take_succ_cons, List.take_zero, List.drop_succ_cons, List.drop_zero]
  with_reducible refine M2.mixL_quiet 1 (by kernel_rfl) ?_
  simp only [List.take_succ_cons, List.take_zero, List.drop_succ_cons, List.drop_zero]
  repeat (go_big_quiet_step (fail))
  with_reducible refine wpQuiet_nil ?_
  with_reducible refine M2.mixL_eff (by decide) ?_
  go_wp2_with (fail)
  refine M2.MixQ.mk (by (try unfold Ov); repeat (first | with_reducible exact ex_over | with_reducible exact over_self _ | with_reducible refine ex_undrew ?_ | with_reducible refine ex_into ?_ _ | with_reducible refine ex_alloc ?_ _ | with_reducible refine ex_drew ?_ | ((with_reducible refine ex_setCell ?_ ?_ _); rotate_left; (first | omega | (focus (simp; done)) | (focus (simp; omega)))) | ((with_reducible refine ex_chg ?_ _ ?_); rotate_left; (first | assumption | (exact Hid.out (by assumption)))) | exact ex_over)) ?_
  with_reducible refine M2.mixL_quiet 2 (by kernel_rfl) ?_
  simp only [List.take_succ_cons, List.take_zero, List.drop_succ_cons, List.drop_zero]
  repeat (go_big_quiet_step (fail))
  with_reducible refine wpQuiet_nil ?_
  with_reducible refine M2.mixL_nil ?_
  with_reducible refine M2.mixL_eff (by decide) ?_
  go_wp2_with (fail)
  refine M2.MixQ.mk trivial ?_
  with_reducible refine M2.mixL_nil ?_
  go_wp2
  (try simp only [Exit.inBlock, Exit.then])
  refine bodyPost_ret (v := ?rv7) ?rh7 rfl ?rp7
  case rh7 => (simp only [results, show Tryd.f44.results = #[.tmp 4, .cell 5 24] from rfl]; go_simp; rfl)
  exact ⟨_, _, rfl, (by (try unfold Ov); repeat (first | with_reducible exact ex_over | with_reducible exact over_self _ | with_reducible refine ex_undrew ?_ | with_reducible refine ex_into ?_ _ | with_reducible refine ex_alloc ?_ _ | with_reducible refine ex_drew ?_ | ((with_reducible refine ex_setCell ?_ ?_ _); rotate_left; (first | omega | (focus (simp; done)) | (focus (simp; omega)))) | ((with_reducible refine ex_chg ?_ _ ?_); rotate_left; (first | assumption | (exact Hid.out (by assumption)))) | exact ex_over)), (by (repeat with_reducible refine Sl.drew ?_); refine Sl.lit_as (xs :=  [⟨0, 1⟩]) Pt.cs_len ?_ ?_ ?_ ?_ <;> first | rfl | (simp; done) | (simp [maxLen]; done) | (simp; omega)), (by rintro _ ⟨⟩; simp; try omega)⟩

set_option maxRecDepth 100000 in
set_option maxHeartbeats 2000000 in
theorem write_in (s : Vl) (hs : s.wf) (hh : s.has = true) (hl : s.lead + s.width ≤ 64) (v : Nat) (hv : v < 18446744073709551616) (h0 : v ^^^ s.prev ≠ 0) (hb : inBand s.lead s.width (v ^^^ s.prev) = true) (w : World) (hT : TabW w) :
    Calls Tryd.prog 44 #[s.v, .int .u64 (v : Nat)] w (WrtPost w (wparts s v) (written s v).2) := by
  obtain ⟨has, prev, lead, width⟩ := s
  simp only at hh
  subst hh
  obtain ⟨h1, h2, h3⟩ := hs
  simp only at h1 h2 h3 hl ⊢
  have hX := xor64 v prev hv h1
  have hd : v ^^^ prev < 18446744073709551616 := Nat.xor_lt_two_pow (n := 64) hv h1
  simp only at h0 hb
  rw [show wparts ⟨true, prev, lead, width⟩ v = [⟨2, 2⟩, ⟨(v ^^^ prev) >>> (64 - lead - width), width⟩] by simp [wparts, h0, hb], show (written ⟨true, prev, lead, width⟩ v).2 = ⟨true, v, lead, width⟩ by simp [written, h0, hb]]
  have HO := hid (fun W => of_any ⟨true, v, lead, width⟩ ⟨hv, h2, h3⟩ W)
  have HB := hid (fun W hW => has_any lead width (v ^^^ prev) hd h0 hl W hW)
  rw [hb] at HB
  have HD := hid (fun W => down_any lead width (by omega) (by omega) W)
  generalize hdd : v ^^^ prev = d at *
  have h0' : ((d : Int) == 0) = false := by simp; omega
  have hw64 : width ≤ 64 := by omega
  have hl64 : lead ≤ 64 := by omega
  obtain ⟨D, hD⟩ : ∃ D, d >>> (64 - lead - width) = D := ⟨_, rfl⟩
  have hSh : (d : Int) / (2 : Int) ^ (64 - lead - width) = (D : Int) := by rw [cast_shr, hD]
  rw [hD]
  clear h0 hb hdd hD
  go_enter Tryd.func44, Tryd.ntmps44
  go_wp2_with (first | (go_at_call 59; (with_reducible refine (HO.out _).mono ?_); rintro _ _ ⟨⟨e1, rfl⟩, rfl⟩) | (go_at_call 60; (with_reducible refine (HB.out _ (by repeat (first | with_reducible exact hT | with_reducible refine TabW.over ?_ _ | with_reducible refine TabW.alloc ?_ _ | with_reducible refine TabW.drew ?_ | ((with_reducible refine TabW.setCell ?_ ?_ _); rotate_left; (first | (focus (simp; done)) | (focus (simp; omega)))) | ((with_reducible refine TabW.chg ?_ _ ?_); rotate_left; (first | assumption | (focus (simp; done)) | (focus (simp; omega)))) | exact hT))).mono ?_); rintro _ _ ⟨⟨e2, rfl⟩, rfl⟩))
  refine M2.wp_region_mix [3, 8, 11] 11 (by kernel_rfl) (by kernel_rfl) (by decide) ?_
  simp only [List.take_succ_cons, List.take_zero, List.drop_succ_cons, List.drop_zero]
  with_reducible refine M2.mixL_quiet 3 (by kernel_rfl) ?_
  simp only [List.take_succ_cons, List.take_zero, List.drop_succ_cons, List.drop_zero]
  repeat (go_big_quiet_step (fail))
  with_reducible refine wpQuiet_nil ?_
  with_reducible refine M2.mixL_eff (by decide) ?_
  go_wp2_with ((go_at_call 72; (with_reducible refine (HD.out _).mono ?_); rintro _ _ ⟨⟨e3, rfl⟩, rfl⟩))
  refine M2.MixQ.mk (by (try unfold Ov); repeat (first | with_reducible exact ex_over | with_reducible exact over_self _ | with_reducible refine ex_undrew ?_ | with_reducible refine ex_into ?_ _ | with_reducible refine ex_alloc ?_ _ | with_reducible refine ex_drew ?_ | ((with_reducible refine ex_setCell ?_ ?_ _); rotate_left; (first | omega | (focus (simp; done)) | (focus (simp; omega)))) | ((with_reducible refine ex_chg ?_ _ ?_); rotate_left; (first | assumption | (exact Hid.out (by assumption)))) | exact ex_over)) ?_
  with_reducible refine M2.mixL_quiet 4 (by kernel_rfl) ?_
  simp only [List.take_succ_cons, List.take_zero, List.drop_succ_cons, List.drop_zero]
  repeat (go_big_quiet_step (fail))
  with_reducible refine wpQuiet_nil ?_
  with_reducible refine M2.mixL_eff (by decide) ?_
  go_wp2_with ((go_at_call 72; (with_reducible refine (HD.out _).mono ?_); rintro _ _ ⟨⟨e3, rfl⟩, rfl⟩))
  refine M2.MixQ.mk (by (try unfold Ov); repeat (first | with_reducible exact ex_over | with_reducible exact over_self _ | with_reducible refine ex_undrew ?_ | with_reducible refine ex_into ?_ _ | with_reducible refine ex_alloc ?_ _ | with_reducible refine ex_drew ?_ | ((with_reducible refine ex_setCell ?_ ?_ _); rotate_left; (first | omega | (focus (simp; done)) | (focus (simp; omega)))) | ((with_reducible refine ex_chg ?_ _ ?_); rotate_left; (first | assumption | (exact Hid.out (by assumption)))) | exact ex_over)) ?_
  with_reducible refine M2.mixL_quiet 2 (by kernel_rfl) ?_
  simp only [List.take_succ_cons, List.take_zero, List.drop_succ_cons, List.drop_zero]
  repeat (go_big_quiet_step (fail))
  with_reducible refine wpQuiet_nil ?_
  with_reducible refine M2.mixL_nil ?_
  with_reducible refine M2.mixL_eff (by decide) ?_
  go_wp2_with ((go_at_call 72; (with_reducible refine (HD.out _).mono ?_); rintro _ _ ⟨⟨e3, rfl⟩, rfl⟩))
  refine M2.MixQ.mk trivial ?_
  with_reducible refine M2.mixL_nil ?_
  go_wp2
  (try simp only [Exit.inBlock, Exit.then])
  refine bodyPost_ret (v := ?rv8) ?rh8 rfl ?rp8
  case rh8 => (simp only [results, show Tryd.f44.results = #[.tmp 4, .cell 5 24] from rfl]; go_simp; rfl)
  exact ⟨_, _, rfl, (by (try unfold Ov); repeat (first | with_reducible exact ex_over | with_reducible exact over_self _ | with_reducible refine ex_undrew ?_ | with_reducible refine ex_into ?_ _ | with_reducible refine ex_alloc ?_ _ | with_reducible refine ex_drew ?_ | ((with_reducible refine ex_setCell ?_ ?_ _); rotate_left; (first | omega | (focus (simp; done)) | (focus (simp; omega)))) | ((with_reducible refine ex_chg ?_ _ ?_); rotate_left; (first | assumption | (exact Hid.out (by assumption)))) | exact ex_over)), (by (repeat with_reducible refine Sl.drew ?_); refine Sl.lit_as (xs :=  [⟨2, 2⟩, ⟨D, width⟩]) Pt.cs_len ?_ ?_ ?_ ?_ <;> first | rfl | (simp; done) | (simp [maxLen]; done) | (simp; omega)), (by rintro _ ⟨⟩; simp; try omega)⟩

set_option maxRecDepth 100000 in
set_option maxHeartbeats 2000000 in
theorem write_anew (s : Vl) (hs : s.wf) (hh : s.has = true) (hl : s.lead + s.width ≤ 64) (v : Nat) (hv : v < 18446744073709551616) (h0 : v ^^^ s.prev ≠ 0) (hb : inBand s.lead s.width (v ^^^ s.prev) = false) (w : World) (hT : TabW w) :
    Calls Tryd.prog 44 #[s.v, .int .u64 (v : Nat)] w (WrtPost w (wparts s v) (written s v).2) := by
  obtain ⟨has, prev, lead, width⟩ := s
  simp only at hh
  subst hh
  obtain ⟨h1, h2, h3⟩ := hs
  simp only at h1 h2 h3 hl ⊢
  have hX := xor64 v prev hv h1
  have hd : v ^^^ prev < 18446744073709551616 := Nat.xor_lt_two_pow (n := 64) hv h1
  simp only at h0 hb
  rw [show wparts ⟨true, prev, lead, width⟩ v = [⟨3, 2⟩, ⟨aLead (v ^^^ prev), 5⟩, ⟨aSize (v ^^^ prev) - 1, 6⟩, ⟨(v ^^^ prev) >>> tz (v ^^^ prev), aSize (v ^^^ prev)⟩] by simp [wparts, h0, hb], show (written ⟨true, prev, lead, width⟩ v).2 = ⟨true, v, aLead (v ^^^ prev), aSize (v ^^^ prev)⟩ by simp [written, h0, hb]]
  have HO := hid (fun W => of_any ⟨true, v, lead, width⟩ ⟨hv, h2, h3⟩ W)
  have HB := hid (fun W hW => has_any lead width (v ^^^ prev) hd h0 hl W hW)
  rw [hb] at HB
  have HA := hid (fun W hW => around_any (v ^^^ prev) hd h0 W hW)
  have hA := around_le hd h0
  generalize hdd : v ^^^ prev = d at *
  have h0' : ((d : Int) == 0) = false := by simp; omega
  obtain ⟨L, hL⟩ : ∃ L, aLead d = L := ⟨_, rfl⟩
  obtain ⟨S, hS⟩ : ∃ S, aSize d = S := ⟨_, rfl⟩
  obtain ⟨D, hD⟩ : ∃ D, d >>> tz d = D := ⟨_, rfl⟩
  rw [hL, hS] at HA
  rw [hL, hS] at hA ⊢
  rw [hD]
  obtain ⟨a1, a2, a3, a4, a5, a6, a7⟩ := hA
  have hSh : (d : Int) / (2 : Int) ^ (64 - L - S) = (D : Int) := by rw [cast_shr, a6, hD]
  have HD := hid (fun W => down_any L S (by omega) (by omega) W)
  obtain ⟨R, hR⟩ : ∃ R, S - 1 = R := ⟨_, rfl⟩
  have hSm : (S : Int) - 1 = (R : Int) := by omega
  rw [hR]
  clear h0 hb hdd hD hL hS a2 a6 a7
  have hRl : R ≤ 63 := by omega
  clear hR
  go_enter Tryd.func44, Tryd.ntmps44
  go_wp2_with (first | (go_at_call 59; (with_reducible refine (HO.out _).mono ?_); rintro _ _ ⟨⟨e1, rfl⟩, rfl⟩) | (go_at_call 60; (with_reducible refine (HB.out _ (by repeat (first | with_reducible exact hT | with_reducible refine TabW.over ?_ _ | with_reducible refine TabW.alloc ?_ _ | with_reducible refine TabW.drew ?_ | ((with_reducible refine TabW.setCell ?_ ?_ _); rotate_left; (first | (focus (simp; done)) | (focus (simp; omega)))) | ((with_reducible refine TabW.chg ?_ _ ?_); rotate_left; (first | assumption | (focus (simp; done)) | (focus (simp; omega)))) | exact hT))).mono ?_); rintro _ _ ⟨⟨e2, rfl⟩, rfl⟩) | (go_at_call 61; (with_reducible refine (HA.out _ (by repeat (first | with_reducible exact hT | with_reducible refine TabW.over ?_ _ | with_reducible refine TabW.alloc ?_ _ | with_reducible refine TabW.drew ?_ | ((with_reducible refine TabW.setCell ?_ ?_ _); rotate_left; (first | (focus (simp; done)) | (focus (simp; omega)))) | ((with_reducible refine TabW.chg ?_ _ ?_); rotate_left; (first | assumption | (focus (simp; done)) | (focus (simp; omega)))) | exact hT))).mono ?_); rintro _ _ ⟨⟨e3, rfl⟩, rfl⟩))
  obtain ⟨F, hF⟩ : ∃ F, F = [w.heap.size] := ⟨_, rfl⟩
  have n1 : w.heap.size ∈ F := by rw [hF]; simp
  have n2 : w.heap.size + 1 + 1 + e1.heap.size ∉ F := by rw [hF]; simp; omega
  clear hF
  refine M2.wp_region_mixZ (fun w' => ∃ m : Mut, w' = chg F _ m) [7, 9] 10 (by kernel_rfl) (by kernel_rfl) (by decide) (chg_of (Chg.refl _ _)) ?_
  simp only [List.take_succ_cons, List.take_zero, List.drop_succ_cons, List.drop_zero]
  with_reducible refine M2.mixL_quiet 7 (by kernel_rfl) ?_
  simp only [List.take_succ_cons, List.take_zero, List.drop_succ_cons, List.drop_zero]
  repeat (go_big_quiet_step (fail))
  with_reducible refine wpQuiet_nil ?_
  with_reducible refine M2.mixL_eff (by decide) ?_
  go_wp2_with (fail)
  refine M2.MixQ.mk (chg_of (by repeat (first | with_reducible exact Chg.refl _ _ | (focus (refine ChS.chg ?_; (repeat (first | with_reducible exact ChS.refl _ _ | with_reducible refine ChS.drewl ?_ | with_reducible refine ChS.drewr ?_ | with_reducible refine ChS.over ?_ _ | with_reducible refine chS_chgs ?_ _ | ((with_reducible refine chS_set ?_ _ ?_ _); rotate_left; (first | assumption | (focus (simp; done)) | (focus (simp; assumption)))) | with_reducible refine ChS.alloc ?_ _ | ((with_reducible refine ChS.lit ?_ ?_ _ _); rotate_left; (first | assumption | (focus (simp; done)) | (focus (simp; assumption)))) | with_reducible refine ChS.alloc ?_ _)); done)) | with_reducible refine Chg.alloc ?_ _ | with_reducible refine Chg.drew ?_ | with_reducible refine Chg.on ?_ _ | ((with_reducible refine Chg.setCell ?_ ?_ _); rotate_left; (first | (focus (left; assumption)) | (focus (left; simp; done)) | (focus (right; simp; done)) | (focus (right; simp; omega)) | (focus (left; simp; omega)))) | ((with_reducible refine Chg.in_ ?_ _ ?_); rotate_left; (first | assumption | (focus (intro i hi; left; simp at hi; subst hi; assumption)) | exact fun i hi => Or.inl hi | (focus (intro i hi; left; simp [hi]; done)) | (focus (intro i hi; left; simp at hi ⊢; simp [hi]; done)) | (focus (intro i hi; simp at hi ⊢; simp [hi]; done)) | (focus (intro i hi; simp at hi ⊢; omega))))))) ?_
  with_reducible refine M2.mixL_quiet 1 (by kernel_rfl) ?_
  simp only [List.take_succ_cons, List.take_zero, List.drop_succ_cons, List.drop_zero]
  repeat (go_big_quiet_step (fail))
  with_reducible refine wpQuiet_nil ?_
  with_reducible refine M2.mixL_eff (by decide) ?_
  go_wp2_with (fail)
  refine M2.MixQ.mk (chg_of (by repeat (first | with_reducible exact Chg.refl _ _ | (focus (refine ChS.chg ?_; (repeat (first | with_reducible exact ChS.refl _ _ | with_reducible refine ChS.drewl ?_ | with_reducible refine ChS.drewr ?_ | with_reducible refine ChS.over ?_ _ | with_reducible refine chS_chgs ?_ _ | ((with_reducible refine chS_set ?_ _ ?_ _); rotate_left; (first | assumption | (focus (simp; done)) | (focus (simp; assumption)))) | with_reducible refine ChS.alloc ?_ _ | ((with_reducible refine ChS.lit ?_ ?_ _ _); rotate_left; (first | assumption | (focus (simp; done)) | (focus (simp; assumption)))) | with_reducible refine ChS.alloc ?_ _)); done)) | with_reducible refine Chg.alloc ?_ _ | with_reducible refine Chg.drew ?_ | with_reducible refine Chg.on ?_ _ | ((with_reducible refine Chg.setCell ?_ ?_ _); rotate_left; (first | (focus (left; assumption)) | (focus (left; simp; done)) | (focus (right; simp; done)) | (focus (right; simp; omega)) | (focus (left; simp; omega)))) | ((with_reducible refine Chg.in_ ?_ _ ?_); rotate_left; (first | assumption | (focus (intro i hi; left; simp at hi; subst hi; assumption)) | exact fun i hi => Or.inl hi | (focus (intro i hi; left; simp [hi]; done)) | (focus (intro i hi; left; simp at hi ⊢; simp [hi]; done)) | (focus (intro i hi; simp at hi ⊢; simp [hi]; done)) | (focus (intro i hi; simp at hi ⊢; omega))))))) ?_
  with_reducible refine M2.mixL_nil ?_
  with_reducible refine M2.mixL_nil ?_
  go_wp2
  refine M2.wp_region_mix [12, 17, 20] 20 (by kernel_rfl) (by kernel_rfl) (by decide) ?_
  simp only [List.take_succ_cons, List.take_zero, List.drop_succ_cons, List.drop_zero]
  with_reducible refine M2.mixL_quiet 12 (by kernel_rfl) ?_
  simp only [List.take_succ_cons, List.take_zero, List.drop_succ_cons, List.drop_zero]
  repeat (go_big_quiet_step (fail))
  with_reducible refine wpQuiet_nil ?_
  with_reducible refine M2.mixL_eff (by decide) ?_
  go_wp2_with ((go_at_call 72; (with_reducible refine (HD.out _).mono ?_); rintro _ _ ⟨⟨e4, rfl⟩, rfl⟩))
  refine M2.MixQ.mk (by (try unfold Ov); repeat (first | with_reducible exact ex_over | with_reducible exact over_self _ | with_reducible refine ex_undrew ?_ | with_reducible refine ex_into ?_ _ | with_reducible refine ex_alloc ?_ _ | with_reducible refine ex_drew ?_ | ((with_reducible refine ex_setCell ?_ ?_ _); rotate_left; (first | omega | (focus (simp; done)) | (focus (simp; omega)))) | ((with_reducible refine ex_chg ?_ _ ?_); rotate_left; (first | assumption | (exact Hid.out (by assumption)))) | exact ex_over)) ?_
  with_reducible refine M2.mixL_quiet 4 (by kernel_rfl) ?_
  simp only [List.take_succ_cons, List.take_zero, List.drop_succ_cons, List.drop_zero]
  repeat (go_big_quiet_step (fail))
  with_reducible refine wpQuiet_nil ?_
  with_reducible refine M2.mixL_eff (by decide) ?_
  go_wp2_with ((go_at_call 72; (with_reducible refine (HD.out _).mono ?_); rintro _ _ ⟨⟨e4, rfl⟩, rfl⟩))
  refine M2.MixQ.mk (by (try unfold Ov); repeat (first | with_reducible exact ex_over | with_reducible exact over_self _ | with_reducible refine ex_undrew ?_ | with_reducible refine ex_into ?_ _ | with_reducible refine ex_alloc ?_ _ | with_reducible refine ex_drew ?_ | ((with_reducible refine ex_setCell ?_ ?_ _); rotate_left; (first | omega | (focus (simp; done)) | (focus (simp; omega)))) | ((with_reducible refine ex_chg ?_ _ ?_); rotate_left; (first | assumption | (exact Hid.out (by assumption)))) | exact ex_over)) ?_
  with_reducible refine M2.mixL_quiet 2 (by kernel_rfl) ?_
  simp only [List.take_succ_cons, List.take_zero, List.drop_succ_cons, List.drop_zero]
  repeat (go_big_quiet_step (fail))
  with_reducible refine wpQuiet_nil ?_
  with_reducible refine M2.mixL_nil ?_
  with_reducible refine M2.mixL_eff (by decide) ?_
  go_wp2_with ((go_at_call 72; (with_reducible refine (HD.out _).mono ?_); rintro _ _ ⟨⟨e4, rfl⟩, rfl⟩))
  refine M2.MixQ.mk trivial ?_
  with_reducible refine M2.mixL_nil ?_
  go_wp2
  (try simp only [Exit.inBlock, Exit.then])
  refine bodyPost_ret (v := ?rv9) ?rh9 rfl ?rp9
  case rh9 => (simp only [results, show Tryd.f44.results = #[.tmp 4, .cell 5 24] from rfl]; go_simp; rfl)
  exact ⟨_, _, rfl, (by (try unfold Ov); repeat (first | with_reducible exact ex_over | with_reducible exact over_self _ | with_reducible refine ex_undrew ?_ | with_reducible refine ex_into ?_ _ | with_reducible refine ex_alloc ?_ _ | with_reducible refine ex_drew ?_ | ((with_reducible refine ex_setCell ?_ ?_ _); rotate_left; (first | omega | (focus (simp; done)) | (focus (simp; omega)))) | ((with_reducible refine ex_chg ?_ _ ?_); rotate_left; (first | assumption | (exact Hid.out (by assumption)))) | exact ex_over)), (by (repeat with_reducible refine Sl.drew ?_); refine Sl.lit_as (xs :=  [⟨3, 2⟩, ⟨L, 5⟩, ⟨R, 6⟩, ⟨D, S⟩]) Pt.cs_len ?_ ?_ ?_ ?_ <;> first | rfl | (simp; done) | (simp [maxLen]; done) | (simp; omega)), (by rintro _ ⟨⟩; simp; try omega)⟩
end Go.Proofs.YthljlajdkdgieaaDoor
